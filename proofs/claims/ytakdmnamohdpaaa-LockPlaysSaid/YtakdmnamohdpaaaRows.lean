/-
  No cell of these rows narrows 'for every input' (looked for: loops, veiled, ifaces, maps, wideKeys, modest, calm, conditions, laid).
  DERIVED. THE GIVEN ROWS OF THIS SEAT. 10 by the template 'for every input the law returns true; each argument reads behind the call as it read before'; 0 by the template 'total and deterministic' (their statements: YtakdmnamohdpaaaTotals.lean).
  GIVEN WITH THE SEED: the statements are not yours to turn. If you find one false, say at which input.
  Laid BY PROGRAM, IN A SANDBOX (cutbox-rows.mjs): the forced cells as the released guide's own fill.sh prints them over the translation 85c854eccef8149d… (all of the seat's roots in one cut). By AI agents, Wed Nov 11 2026. No macro, syntax, notation, axiom, sorry.
-/
import Derived.Test.YtakdmnamohdpaaaChecked
import GoSem.Claim
import GoSem.ClaimJoined
import GoSem.ClaimMapViews
import Derived.JoinedTies
import Derived.KernelRfl
namespace Go.Proofs.Ytakdmnamohdpaaa
/- THE CELL 'sum', in the pinned program and in every row, IS THE sha256 OF THE DUMP (.gsa) THAT YtakdmnamohdpaaaProg.lean LOADS. Nothing in Lean hashes anything: it is a label: what it is worth is what the hold of that sum in a sandbox is worth. -/
noncomputable def Try.pinned : Pinned := { name := "ytakdmnamohdpaaa", sum := "85c854eccef8149da9890d82a90cae361e17f5a4eaf4d5771c9013f9bf61aaef", checked := Try.checked }
namespace Rows
def none {H : Type} : Left H := { results := [], args := [] }

/-- 'terrazzolaw12.BlockPlays': WHATEVER THE INPUT: true; the input reads as it did. -/
def blockPlaysSpec : ChangeSpec := { name := "blockPlays", fn := fun _ => fun
  | [d1, d2] => { results := [.lit (.bool true)], args := [d1, d2] }
  | _ => none }
def blockPlaysRow : OpenClaim := { program := "ytakdmnamohdpaaa", sum := "85c854eccef8149da9890d82a90cae361e17f5a4eaf4d5771c9013f9bf61aaef", func := "terrazzo/terrazzolaw12.BlockPlays", spec := "blockPlays", apart := false }
def BlockPlaysSaid : Prop := blockPlaysRow.holds Try.pinned (OpenSpec.ofChange blockPlaysSpec)

/-- ITS FALSE NEIGHBOUR: 'it returns false'. Refute it at one input. -/
def blockPlaysWrong : ChangeSpec := { name := "blockPlays", fn := fun _ => fun
  | [d1, d2] => { results := [.lit (.bool false)], args := [d1, d2] }
  | _ => none }
def BlockPlaysWrongFalsely : Prop := blockPlaysRow.holds Try.pinned (OpenSpec.ofChange blockPlaysWrong)

/-- 'terrazzolaw12.BlockStays': WHATEVER THE INPUT: true; the input reads as it did. -/
def blockStaysSpec : ChangeSpec := { name := "blockStays", fn := fun _ => fun
  | [d1, d2] => { results := [.lit (.bool true)], args := [d1, d2] }
  | _ => none }
def blockStaysRow : OpenClaim := { program := "ytakdmnamohdpaaa", sum := "85c854eccef8149da9890d82a90cae361e17f5a4eaf4d5771c9013f9bf61aaef", func := "terrazzo/terrazzolaw12.BlockStays", spec := "blockStays", apart := false }
def BlockStaysSaid : Prop := blockStaysRow.holds Try.pinned (OpenSpec.ofChange blockStaysSpec)

/-- ITS FALSE NEIGHBOUR: 'it returns false'. Refute it at one input. -/
def blockStaysWrong : ChangeSpec := { name := "blockStays", fn := fun _ => fun
  | [d1, d2] => { results := [.lit (.bool false)], args := [d1, d2] }
  | _ => none }
def BlockStaysWrongFalsely : Prop := blockStaysRow.holds Try.pinned (OpenSpec.ofChange blockStaysWrong)

/-- 'terrazzolaw12.BlockOrder': WHATEVER THE INPUT: true; the input reads as it did. -/
def blockOrderSpec : ChangeSpec := { name := "blockOrder", fn := fun _ => fun
  | [d1, d2, d3] => { results := [.lit (.bool true)], args := [d1, d2, d3] }
  | _ => none }
def blockOrderRow : OpenClaim := { program := "ytakdmnamohdpaaa", sum := "85c854eccef8149da9890d82a90cae361e17f5a4eaf4d5771c9013f9bf61aaef", func := "terrazzo/terrazzolaw12.BlockOrder", spec := "blockOrder", apart := false }
def BlockOrderSaid : Prop := blockOrderRow.holds Try.pinned (OpenSpec.ofChange blockOrderSpec)

/-- ITS FALSE NEIGHBOUR: 'it returns false'. Refute it at one input. -/
def blockOrderWrong : ChangeSpec := { name := "blockOrder", fn := fun _ => fun
  | [d1, d2, d3] => { results := [.lit (.bool false)], args := [d1, d2, d3] }
  | _ => none }
def BlockOrderWrongFalsely : Prop := blockOrderRow.holds Try.pinned (OpenSpec.ofChange blockOrderWrong)

/-- 'terrazzolaw12.BlockPacks': WHATEVER THE INPUT: true; the input reads as it did. -/
def blockPacksSpec : ChangeSpec := { name := "blockPacks", fn := fun _ => fun
  | [d1, d2] => { results := [.lit (.bool true)], args := [d1, d2] }
  | _ => none }
def blockPacksRow : OpenClaim := { program := "ytakdmnamohdpaaa", sum := "85c854eccef8149da9890d82a90cae361e17f5a4eaf4d5771c9013f9bf61aaef", func := "terrazzo/terrazzolaw12.BlockPacks", spec := "blockPacks", apart := false }
def BlockPacksSaid : Prop := blockPacksRow.holds Try.pinned (OpenSpec.ofChange blockPacksSpec)

/-- ITS FALSE NEIGHBOUR: 'it returns false'. Refute it at one input. -/
def blockPacksWrong : ChangeSpec := { name := "blockPacks", fn := fun _ => fun
  | [d1, d2] => { results := [.lit (.bool false)], args := [d1, d2] }
  | _ => none }
def BlockPacksWrongFalsely : Prop := blockPacksRow.holds Try.pinned (OpenSpec.ofChange blockPacksWrong)

/-- 'terrazzolaw12.BlockBack': WHATEVER THE INPUT: true; the input reads as it did. -/
def blockBackSpec : ChangeSpec := { name := "blockBack", fn := fun _ => fun
  | [d1, d2] => { results := [.lit (.bool true)], args := [d1, d2] }
  | _ => none }
def blockBackRow : OpenClaim := { program := "ytakdmnamohdpaaa", sum := "85c854eccef8149da9890d82a90cae361e17f5a4eaf4d5771c9013f9bf61aaef", func := "terrazzo/terrazzolaw12.BlockBack", spec := "blockBack", apart := false }
def BlockBackSaid : Prop := blockBackRow.holds Try.pinned (OpenSpec.ofChange blockBackSpec)

/-- ITS FALSE NEIGHBOUR: 'it returns false'. Refute it at one input. -/
def blockBackWrong : ChangeSpec := { name := "blockBack", fn := fun _ => fun
  | [d1, d2] => { results := [.lit (.bool false)], args := [d1, d2] }
  | _ => none }
def BlockBackWrongFalsely : Prop := blockBackRow.holds Try.pinned (OpenSpec.ofChange blockBackWrong)

/-- 'terrazzolaw13.LockPlays': WHATEVER THE INPUT: true; the input reads as it did. -/
def lockPlaysSpec : ChangeSpec := { name := "lockPlays", fn := fun _ => fun
  | [d] => { results := [.lit (.bool true)], args := [d] }
  | _ => none }
def lockPlaysRow : OpenClaim := { program := "ytakdmnamohdpaaa", sum := "85c854eccef8149da9890d82a90cae361e17f5a4eaf4d5771c9013f9bf61aaef", func := "terrazzo/terrazzolaw13.LockPlays", spec := "lockPlays", unfollowed := true, recurses := true, apart := false }
def LockPlaysSaid : Prop := lockPlaysRow.holds Try.pinned (OpenSpec.ofChange lockPlaysSpec)

/-- ITS FALSE NEIGHBOUR: 'it returns false'. Refute it at one input. -/
def lockPlaysWrong : ChangeSpec := { name := "lockPlays", fn := fun _ => fun
  | [d] => { results := [.lit (.bool false)], args := [d] }
  | _ => none }
def LockPlaysWrongFalsely : Prop := lockPlaysRow.holds Try.pinned (OpenSpec.ofChange lockPlaysWrong)

/-- 'terrazzolaw13.LockOne': WHATEVER THE INPUT: true; the input reads as it did. -/
def lockOneSpec : ChangeSpec := { name := "lockOne", fn := fun _ => fun
  | [d] => { results := [.lit (.bool true)], args := [d] }
  | _ => none }
def lockOneRow : OpenClaim := { program := "ytakdmnamohdpaaa", sum := "85c854eccef8149da9890d82a90cae361e17f5a4eaf4d5771c9013f9bf61aaef", func := "terrazzo/terrazzolaw13.LockOne", spec := "lockOne", unfollowed := true, recurses := true, apart := false }
def LockOneSaid : Prop := lockOneRow.holds Try.pinned (OpenSpec.ofChange lockOneSpec)

/-- ITS FALSE NEIGHBOUR: 'it returns false'. Refute it at one input. -/
def lockOneWrong : ChangeSpec := { name := "lockOne", fn := fun _ => fun
  | [d] => { results := [.lit (.bool false)], args := [d] }
  | _ => none }
def LockOneWrongFalsely : Prop := lockOneRow.holds Try.pinned (OpenSpec.ofChange lockOneWrong)

/-- 'terrazzolaw13.LockStays': WHATEVER THE INPUT: true; the input reads as it did. -/
def lockStaysSpec : ChangeSpec := { name := "lockStays", fn := fun _ => fun
  | [d1, d2, d3] => { results := [.lit (.bool true)], args := [d1, d2, d3] }
  | _ => none }
def lockStaysRow : OpenClaim := { program := "ytakdmnamohdpaaa", sum := "85c854eccef8149da9890d82a90cae361e17f5a4eaf4d5771c9013f9bf61aaef", func := "terrazzo/terrazzolaw13.LockStays", spec := "lockStays", unfollowed := true, recurses := true, apart := false }
def LockStaysSaid : Prop := lockStaysRow.holds Try.pinned (OpenSpec.ofChange lockStaysSpec)

/-- ITS FALSE NEIGHBOUR: 'it returns false'. Refute it at one input. -/
def lockStaysWrong : ChangeSpec := { name := "lockStays", fn := fun _ => fun
  | [d1, d2, d3] => { results := [.lit (.bool false)], args := [d1, d2, d3] }
  | _ => none }
def LockStaysWrongFalsely : Prop := lockStaysRow.holds Try.pinned (OpenSpec.ofChange lockStaysWrong)

/-- 'terrazzolaw13.LockNone': WHATEVER THE INPUT: true; the input reads as it did. -/
def lockNoneSpec : ChangeSpec := { name := "lockNone", fn := fun _ => fun
  | [d1, d2] => { results := [.lit (.bool true)], args := [d1, d2] }
  | _ => none }
def lockNoneRow : OpenClaim := { program := "ytakdmnamohdpaaa", sum := "85c854eccef8149da9890d82a90cae361e17f5a4eaf4d5771c9013f9bf61aaef", func := "terrazzo/terrazzolaw13.LockNone", spec := "lockNone", unfollowed := true, recurses := true, apart := false }
def LockNoneSaid : Prop := lockNoneRow.holds Try.pinned (OpenSpec.ofChange lockNoneSpec)

/-- ITS FALSE NEIGHBOUR: 'it returns false'. Refute it at one input. -/
def lockNoneWrong : ChangeSpec := { name := "lockNone", fn := fun _ => fun
  | [d1, d2] => { results := [.lit (.bool false)], args := [d1, d2] }
  | _ => none }
def LockNoneWrongFalsely : Prop := lockNoneRow.holds Try.pinned (OpenSpec.ofChange lockNoneWrong)

/-- 'terrazzolaw13.LockMany': WHATEVER THE INPUT: true; the input reads as it did. -/
def lockManySpec : ChangeSpec := { name := "lockMany", fn := fun _ => fun
  | [d1, d2] => { results := [.lit (.bool true)], args := [d1, d2] }
  | _ => none }
def lockManyRow : OpenClaim := { program := "ytakdmnamohdpaaa", sum := "85c854eccef8149da9890d82a90cae361e17f5a4eaf4d5771c9013f9bf61aaef", func := "terrazzo/terrazzolaw13.LockMany", spec := "lockMany", unfollowed := true, recurses := true, apart := false }
def LockManySaid : Prop := lockManyRow.holds Try.pinned (OpenSpec.ofChange lockManySpec)

/-- ITS FALSE NEIGHBOUR: 'it returns false'. Refute it at one input. -/
def lockManyWrong : ChangeSpec := { name := "lockMany", fn := fun _ => fun
  | [d1, d2] => { results := [.lit (.bool false)], args := [d1, d2] }
  | _ => none }
def LockManyWrongFalsely : Prop := lockManyRow.holds Try.pinned (OpenSpec.ofChange lockManyWrong)

/- THE SECOND FORM. 'bulk': how many values and letters a reading holds, each counted each time it is reached (what is shared counts as often as it is met; a slice's spare places count too). A statement '..UptoSaid' is the law's where the arguments, and the package variables that the reading takes, are together of bulk at most 1048576: NARROWER than '..Said'. Prove '..Said' where nothing that the law and all that it calls make is longer than what came in: it says more and counts as full. Else prove '..UptoSaid'. A law counts once. -/
mutual
def uptoBulk {H : Type} : DataW H → Nat
  | .lit (.string bytes) => bytes.length + 1
  | .lit _ => 1
  | .nil => 1
  | .ptr d => uptoBulk d + 1
  | .slice elems spare => uptoBulkAll elems + uptoBulkAll spare + 1
  | .agg parts => uptoBulkAll parts + 1
  | .iface _ d => uptoBulk d + 1
  | .map entries => uptoBulkEntries entries + 1
  | .held _ => 1
def uptoBulkAll {H : Type} : List (DataW H) → Nat
  | [] => 0
  | d :: r => uptoBulk d + uptoBulkAll r
def uptoBulkEntries {H : Type} : List (Lit × DataW H) → Nat
  | [] => 0
  | x :: r => uptoBulkEntry x + uptoBulkEntries r
def uptoBulkEntry {H : Type} : Lit × DataW H → Nat
  | (.string bytes, d) => bytes.length + uptoBulk d + 1
  | (_, d) => uptoBulk d + 1
 end
def uptoSmall : (H : Type) → List (DataW H) → Bool := fun _ ds => decide (uptoBulkAll ds ≤ 1048576)
def OpenSpec.upto (s : _root_.Go.ChangeSpec) : _root_.Go.OpenSpec := { _root_.Go.OpenSpec.ofChange s with cond := some uptoSmall }

/-- 'terrazzolaw12.BlockPlays', WHERE WHAT IT READS IS OF BULK AT MOST 1048576: true; the input reads as it did. -/
def blockPlaysUptoRow : OpenClaim := { program := "ytakdmnamohdpaaa", sum := "85c854eccef8149da9890d82a90cae361e17f5a4eaf4d5771c9013f9bf61aaef", func := "terrazzo/terrazzolaw12.BlockPlays", spec := "blockPlays", apart := false, narrowed := true }
def BlockPlaysUptoSaid : Prop := blockPlaysUptoRow.holds Try.pinned (OpenSpec.upto blockPlaysSpec)

/-- 'terrazzolaw12.BlockStays', WHERE WHAT IT READS IS OF BULK AT MOST 1048576: true; the input reads as it did. -/
def blockStaysUptoRow : OpenClaim := { program := "ytakdmnamohdpaaa", sum := "85c854eccef8149da9890d82a90cae361e17f5a4eaf4d5771c9013f9bf61aaef", func := "terrazzo/terrazzolaw12.BlockStays", spec := "blockStays", apart := false, narrowed := true }
def BlockStaysUptoSaid : Prop := blockStaysUptoRow.holds Try.pinned (OpenSpec.upto blockStaysSpec)

/-- 'terrazzolaw12.BlockOrder', WHERE WHAT IT READS IS OF BULK AT MOST 1048576: true; the input reads as it did. -/
def blockOrderUptoRow : OpenClaim := { program := "ytakdmnamohdpaaa", sum := "85c854eccef8149da9890d82a90cae361e17f5a4eaf4d5771c9013f9bf61aaef", func := "terrazzo/terrazzolaw12.BlockOrder", spec := "blockOrder", apart := false, narrowed := true }
def BlockOrderUptoSaid : Prop := blockOrderUptoRow.holds Try.pinned (OpenSpec.upto blockOrderSpec)

/-- 'terrazzolaw12.BlockPacks', WHERE WHAT IT READS IS OF BULK AT MOST 1048576: true; the input reads as it did. -/
def blockPacksUptoRow : OpenClaim := { program := "ytakdmnamohdpaaa", sum := "85c854eccef8149da9890d82a90cae361e17f5a4eaf4d5771c9013f9bf61aaef", func := "terrazzo/terrazzolaw12.BlockPacks", spec := "blockPacks", apart := false, narrowed := true }
def BlockPacksUptoSaid : Prop := blockPacksUptoRow.holds Try.pinned (OpenSpec.upto blockPacksSpec)

/-- 'terrazzolaw12.BlockBack', WHERE WHAT IT READS IS OF BULK AT MOST 1048576: true; the input reads as it did. -/
def blockBackUptoRow : OpenClaim := { program := "ytakdmnamohdpaaa", sum := "85c854eccef8149da9890d82a90cae361e17f5a4eaf4d5771c9013f9bf61aaef", func := "terrazzo/terrazzolaw12.BlockBack", spec := "blockBack", apart := false, narrowed := true }
def BlockBackUptoSaid : Prop := blockBackUptoRow.holds Try.pinned (OpenSpec.upto blockBackSpec)

/-- 'terrazzolaw13.LockPlays', WHERE WHAT IT READS IS OF BULK AT MOST 1048576: true; the input reads as it did. -/
def lockPlaysUptoRow : OpenClaim := { program := "ytakdmnamohdpaaa", sum := "85c854eccef8149da9890d82a90cae361e17f5a4eaf4d5771c9013f9bf61aaef", func := "terrazzo/terrazzolaw13.LockPlays", spec := "lockPlays", unfollowed := true, recurses := true, apart := false, narrowed := true }
def LockPlaysUptoSaid : Prop := lockPlaysUptoRow.holds Try.pinned (OpenSpec.upto lockPlaysSpec)

/-- 'terrazzolaw13.LockOne', WHERE WHAT IT READS IS OF BULK AT MOST 1048576: true; the input reads as it did. -/
def lockOneUptoRow : OpenClaim := { program := "ytakdmnamohdpaaa", sum := "85c854eccef8149da9890d82a90cae361e17f5a4eaf4d5771c9013f9bf61aaef", func := "terrazzo/terrazzolaw13.LockOne", spec := "lockOne", unfollowed := true, recurses := true, apart := false, narrowed := true }
def LockOneUptoSaid : Prop := lockOneUptoRow.holds Try.pinned (OpenSpec.upto lockOneSpec)

/-- 'terrazzolaw13.LockStays', WHERE WHAT IT READS IS OF BULK AT MOST 1048576: true; the input reads as it did. -/
def lockStaysUptoRow : OpenClaim := { program := "ytakdmnamohdpaaa", sum := "85c854eccef8149da9890d82a90cae361e17f5a4eaf4d5771c9013f9bf61aaef", func := "terrazzo/terrazzolaw13.LockStays", spec := "lockStays", unfollowed := true, recurses := true, apart := false, narrowed := true }
def LockStaysUptoSaid : Prop := lockStaysUptoRow.holds Try.pinned (OpenSpec.upto lockStaysSpec)

/-- 'terrazzolaw13.LockNone', WHERE WHAT IT READS IS OF BULK AT MOST 1048576: true; the input reads as it did. -/
def lockNoneUptoRow : OpenClaim := { program := "ytakdmnamohdpaaa", sum := "85c854eccef8149da9890d82a90cae361e17f5a4eaf4d5771c9013f9bf61aaef", func := "terrazzo/terrazzolaw13.LockNone", spec := "lockNone", unfollowed := true, recurses := true, apart := false, narrowed := true }
def LockNoneUptoSaid : Prop := lockNoneUptoRow.holds Try.pinned (OpenSpec.upto lockNoneSpec)

/-- 'terrazzolaw13.LockMany', WHERE WHAT IT READS IS OF BULK AT MOST 1048576: true; the input reads as it did. -/
def lockManyUptoRow : OpenClaim := { program := "ytakdmnamohdpaaa", sum := "85c854eccef8149da9890d82a90cae361e17f5a4eaf4d5771c9013f9bf61aaef", func := "terrazzo/terrazzolaw13.LockMany", spec := "lockMany", unfollowed := true, recurses := true, apart := false, narrowed := true }
def LockManyUptoSaid : Prop := lockManyUptoRow.holds Try.pinned (OpenSpec.upto lockManySpec)

end Rows
end Go.Proofs.Ytakdmnamohdpaaa
