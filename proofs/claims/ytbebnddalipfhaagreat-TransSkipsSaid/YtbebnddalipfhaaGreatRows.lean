/-
  NARROWER THAN 'FOR EVERY INPUT', by the rows' own cells (each row's printed sentence says how): TransDeaf: loops · TransSound: loops · FixStable: loops · FixSound: loops.
  DERIVED. THE GIVEN ROWS OF THIS SEAT. 6 by the template 'for every input the law returns true; each argument reads behind the call as it read before'; 0 by the template 'total and deterministic' (their statements: YtbebnddalipfhaaGreatTotals.lean).
  GIVEN WITH THE SEED: the statements are not yours to turn. If you find one false, say at which input.
  Laid BY PROGRAM, IN A SANDBOX (cutbox-rows.mjs): the forced cells as the released guide's own fill.sh prints them over the translation 8d8146aa7bc5b3e2… (all of the seat's roots in one cut). By AI agents, Wed Nov 11 2026. No macro, syntax, notation, axiom, sorry.
-/
import Derived.Test.YtbebnddalipfhaaGreatChecked
import GoSem.Claim
import GoSem.ClaimJoined
import GoSem.ClaimMapViews
import Derived.JoinedTies
import Derived.KernelRfl
namespace Go.Proofs.YtbebnddalipfhaaGreat
/- THE CELL 'sum', in the pinned program and in every row, IS THE sha256 OF THE DUMP (.gsa) THAT YtbebnddalipfhaaGreatProg.lean LOADS. Nothing in Lean hashes anything: it is a label: what it is worth is what the hold of that sum in a sandbox is worth. -/
noncomputable def Tryz.pinned : Pinned := { name := "ytbebnddalipfhaagreat", sum := "8d8146aa7bc5b3e2892d83dfc0b996a6ce7748d58622b1fa934736773e5ea56f", checked := Tryz.checked }
namespace Rows
def none {H : Type} : Left H := { results := [], args := [] }

/-- 'jetsamlaw14.TransDeaf': WHATEVER THE INPUT: true; the input reads as it did. -/
def transDeafSpec : ChangeSpec := { name := "transDeaf", fn := fun _ => fun
  | [d] => { results := [.lit (.bool true)], args := [d] }
  | _ => none }
def transDeafRow : OpenClaim := { program := "ytbebnddalipfhaagreat", sum := "8d8146aa7bc5b3e2892d83dfc0b996a6ce7748d58622b1fa934736773e5ea56f", func := "jetsam/jetsamlaw14.TransDeaf", spec := "transDeaf", unfollowed := true, recurses := true, loops := true, apart := false }
def TransDeafSaid : Prop := transDeafRow.holds Tryz.pinned (OpenSpec.ofChange transDeafSpec)

/-- ITS FALSE NEIGHBOUR: 'it returns false'. Refute it at one input. -/
def transDeafWrong : ChangeSpec := { name := "transDeaf", fn := fun _ => fun
  | [d] => { results := [.lit (.bool false)], args := [d] }
  | _ => none }
def TransDeafWrongFalsely : Prop := transDeafRow.holds Tryz.pinned (OpenSpec.ofChange transDeafWrong)

/-- 'jetsamlaw14.TransSkips': WHATEVER THE INPUT: true; the input reads as it did. -/
def transSkipsSpec : ChangeSpec := { name := "transSkips", fn := fun _ => fun
  | [d1, d2] => { results := [.lit (.bool true)], args := [d1, d2] }
  | _ => none }
def transSkipsRow : OpenClaim := { program := "ytbebnddalipfhaagreat", sum := "8d8146aa7bc5b3e2892d83dfc0b996a6ce7748d58622b1fa934736773e5ea56f", func := "jetsam/jetsamlaw14.TransSkips", spec := "transSkips", unfollowed := true, recurses := true, apart := false }
def TransSkipsSaid : Prop := transSkipsRow.holds Tryz.pinned (OpenSpec.ofChange transSkipsSpec)

/-- ITS FALSE NEIGHBOUR: 'it returns false'. Refute it at one input. -/
def transSkipsWrong : ChangeSpec := { name := "transSkips", fn := fun _ => fun
  | [d1, d2] => { results := [.lit (.bool false)], args := [d1, d2] }
  | _ => none }
def TransSkipsWrongFalsely : Prop := transSkipsRow.holds Tryz.pinned (OpenSpec.ofChange transSkipsWrong)

/-- 'jetsamlaw14.TransSound': WHATEVER THE INPUT: true; the input reads as it did. -/
def transSoundSpec : ChangeSpec := { name := "transSound", fn := fun _ => fun
  | [d1, d2, d3] => { results := [.lit (.bool true)], args := [d1, d2, d3] }
  | _ => none }
def transSoundRow : OpenClaim := { program := "ytbebnddalipfhaagreat", sum := "8d8146aa7bc5b3e2892d83dfc0b996a6ce7748d58622b1fa934736773e5ea56f", func := "jetsam/jetsamlaw14.TransSound", spec := "transSound", unfollowed := true, recurses := true, loops := true, apart := false }
def TransSoundSaid : Prop := transSoundRow.holds Tryz.pinned (OpenSpec.ofChange transSoundSpec)

/-- ITS FALSE NEIGHBOUR: 'it returns false'. Refute it at one input. -/
def transSoundWrong : ChangeSpec := { name := "transSound", fn := fun _ => fun
  | [d1, d2, d3] => { results := [.lit (.bool false)], args := [d1, d2, d3] }
  | _ => none }
def TransSoundWrongFalsely : Prop := transSoundRow.holds Tryz.pinned (OpenSpec.ofChange transSoundWrong)

/-- 'jetsamlaw15.FixStable': WHATEVER THE INPUT: true; the input reads as it did. -/
def fixStableSpec : ChangeSpec := { name := "fixStable", fn := fun _ => fun
  | [d1, d2, d3] => { results := [.lit (.bool true)], args := [d1, d2, d3] }
  | _ => none }
def fixStableRow : OpenClaim := { program := "ytbebnddalipfhaagreat", sum := "8d8146aa7bc5b3e2892d83dfc0b996a6ce7748d58622b1fa934736773e5ea56f", func := "jetsam/jetsamlaw15.FixStable", spec := "fixStable", unfollowed := true, recurses := true, loops := true, apart := false }
def FixStableSaid : Prop := fixStableRow.holds Tryz.pinned (OpenSpec.ofChange fixStableSpec)

/-- ITS FALSE NEIGHBOUR: 'it returns false'. Refute it at one input. -/
def fixStableWrong : ChangeSpec := { name := "fixStable", fn := fun _ => fun
  | [d1, d2, d3] => { results := [.lit (.bool false)], args := [d1, d2, d3] }
  | _ => none }
def FixStableWrongFalsely : Prop := fixStableRow.holds Tryz.pinned (OpenSpec.ofChange fixStableWrong)

/-- 'jetsamlaw15.FixSound': WHATEVER THE INPUT: true; the input reads as it did. -/
def fixSoundSpec : ChangeSpec := { name := "fixSound", fn := fun _ => fun
  | [d1, d2, d3] => { results := [.lit (.bool true)], args := [d1, d2, d3] }
  | _ => none }
def fixSoundRow : OpenClaim := { program := "ytbebnddalipfhaagreat", sum := "8d8146aa7bc5b3e2892d83dfc0b996a6ce7748d58622b1fa934736773e5ea56f", func := "jetsam/jetsamlaw15.FixSound", spec := "fixSound", unfollowed := true, recurses := true, loops := true, apart := false }
def FixSoundSaid : Prop := fixSoundRow.holds Tryz.pinned (OpenSpec.ofChange fixSoundSpec)

/-- ITS FALSE NEIGHBOUR: 'it returns false'. Refute it at one input. -/
def fixSoundWrong : ChangeSpec := { name := "fixSound", fn := fun _ => fun
  | [d1, d2, d3] => { results := [.lit (.bool false)], args := [d1, d2, d3] }
  | _ => none }
def FixSoundWrongFalsely : Prop := fixSoundRow.holds Tryz.pinned (OpenSpec.ofChange fixSoundWrong)

/-- 'jetsamlaw15.FixDead': WHATEVER THE INPUT: true; the input reads as it did. -/
def fixDeadSpec : ChangeSpec := { name := "fixDead", fn := fun _ => fun
  | [d1, d2] => { results := [.lit (.bool true)], args := [d1, d2] }
  | _ => none }
def fixDeadRow : OpenClaim := { program := "ytbebnddalipfhaagreat", sum := "8d8146aa7bc5b3e2892d83dfc0b996a6ce7748d58622b1fa934736773e5ea56f", func := "jetsam/jetsamlaw15.FixDead", spec := "fixDead", unfollowed := true, recurses := true, apart := false }
def FixDeadSaid : Prop := fixDeadRow.holds Tryz.pinned (OpenSpec.ofChange fixDeadSpec)

/-- ITS FALSE NEIGHBOUR: 'it returns false'. Refute it at one input. -/
def fixDeadWrong : ChangeSpec := { name := "fixDead", fn := fun _ => fun
  | [d1, d2] => { results := [.lit (.bool false)], args := [d1, d2] }
  | _ => none }
def FixDeadWrongFalsely : Prop := fixDeadRow.holds Tryz.pinned (OpenSpec.ofChange fixDeadWrong)

/- THE SECOND FORM. 'bulk': how many values and letters a reading holds, each counted each time it is reached (what is shared counts as often as it is met; a slice's spare places count too). A statement '..UptoSaid' is the law's where the arguments, and the package variables that the reading takes, are together of bulk at most 1048576: NARROWER than '..Said'. Prove '..Said' where nothing that the law and all that it calls make is longer than what came in: it says more and counts as full. Else prove '..UptoSaid'. A law counts once. -/
mutual
def uptoBulk {H : Type} : DataW H → Nat
  | .lit (.string bytes) => bytes.length + 1
  | .lit _ => 1
  | .nil => 1
  | .ptr d => uptoBulk d + 1
  | .slice elems spare => uptoBulkAll elems + uptoBulkAll spare + 1
  | .agg parts => uptoBulkAll parts + 1
  | .iface _ d => uptoBulk d + 1
  | .map entries => uptoBulkEntries entries + 1
  | .held _ => 1
def uptoBulkAll {H : Type} : List (DataW H) → Nat
  | [] => 0
  | d :: r => uptoBulk d + uptoBulkAll r
def uptoBulkEntries {H : Type} : List (Lit × DataW H) → Nat
  | [] => 0
  | x :: r => uptoBulkEntry x + uptoBulkEntries r
def uptoBulkEntry {H : Type} : Lit × DataW H → Nat
  | (.string bytes, d) => bytes.length + uptoBulk d + 1
  | (_, d) => uptoBulk d + 1
 end
def uptoSmall : (H : Type) → List (DataW H) → Bool := fun _ ds => decide (uptoBulkAll ds ≤ 1048576)
def OpenSpec.upto (s : _root_.Go.ChangeSpec) : _root_.Go.OpenSpec := { _root_.Go.OpenSpec.ofChange s with cond := some uptoSmall }

/-- 'jetsamlaw14.TransDeaf', WHERE WHAT IT READS IS OF BULK AT MOST 1048576: true; the input reads as it did. -/
def transDeafUptoRow : OpenClaim := { program := "ytbebnddalipfhaagreat", sum := "8d8146aa7bc5b3e2892d83dfc0b996a6ce7748d58622b1fa934736773e5ea56f", func := "jetsam/jetsamlaw14.TransDeaf", spec := "transDeaf", unfollowed := true, recurses := true, loops := true, apart := false, narrowed := true }
def TransDeafUptoSaid : Prop := transDeafUptoRow.holds Tryz.pinned (OpenSpec.upto transDeafSpec)

/-- 'jetsamlaw14.TransSkips', WHERE WHAT IT READS IS OF BULK AT MOST 1048576: true; the input reads as it did. -/
def transSkipsUptoRow : OpenClaim := { program := "ytbebnddalipfhaagreat", sum := "8d8146aa7bc5b3e2892d83dfc0b996a6ce7748d58622b1fa934736773e5ea56f", func := "jetsam/jetsamlaw14.TransSkips", spec := "transSkips", unfollowed := true, recurses := true, apart := false, narrowed := true }
def TransSkipsUptoSaid : Prop := transSkipsUptoRow.holds Tryz.pinned (OpenSpec.upto transSkipsSpec)

/-- 'jetsamlaw14.TransSound', WHERE WHAT IT READS IS OF BULK AT MOST 1048576: true; the input reads as it did. -/
def transSoundUptoRow : OpenClaim := { program := "ytbebnddalipfhaagreat", sum := "8d8146aa7bc5b3e2892d83dfc0b996a6ce7748d58622b1fa934736773e5ea56f", func := "jetsam/jetsamlaw14.TransSound", spec := "transSound", unfollowed := true, recurses := true, loops := true, apart := false, narrowed := true }
def TransSoundUptoSaid : Prop := transSoundUptoRow.holds Tryz.pinned (OpenSpec.upto transSoundSpec)

/-- 'jetsamlaw15.FixStable', WHERE WHAT IT READS IS OF BULK AT MOST 1048576: true; the input reads as it did. -/
def fixStableUptoRow : OpenClaim := { program := "ytbebnddalipfhaagreat", sum := "8d8146aa7bc5b3e2892d83dfc0b996a6ce7748d58622b1fa934736773e5ea56f", func := "jetsam/jetsamlaw15.FixStable", spec := "fixStable", unfollowed := true, recurses := true, loops := true, apart := false, narrowed := true }
def FixStableUptoSaid : Prop := fixStableUptoRow.holds Tryz.pinned (OpenSpec.upto fixStableSpec)

/-- 'jetsamlaw15.FixSound', WHERE WHAT IT READS IS OF BULK AT MOST 1048576: true; the input reads as it did. -/
def fixSoundUptoRow : OpenClaim := { program := "ytbebnddalipfhaagreat", sum := "8d8146aa7bc5b3e2892d83dfc0b996a6ce7748d58622b1fa934736773e5ea56f", func := "jetsam/jetsamlaw15.FixSound", spec := "fixSound", unfollowed := true, recurses := true, loops := true, apart := false, narrowed := true }
def FixSoundUptoSaid : Prop := fixSoundUptoRow.holds Tryz.pinned (OpenSpec.upto fixSoundSpec)

/-- 'jetsamlaw15.FixDead', WHERE WHAT IT READS IS OF BULK AT MOST 1048576: true; the input reads as it did. -/
def fixDeadUptoRow : OpenClaim := { program := "ytbebnddalipfhaagreat", sum := "8d8146aa7bc5b3e2892d83dfc0b996a6ce7748d58622b1fa934736773e5ea56f", func := "jetsam/jetsamlaw15.FixDead", spec := "fixDead", unfollowed := true, recurses := true, apart := false, narrowed := true }
def FixDeadUptoSaid : Prop := fixDeadUptoRow.holds Tryz.pinned (OpenSpec.upto fixDeadSpec)

end Rows
end Go.Proofs.YtbebnddalipfhaaGreat
