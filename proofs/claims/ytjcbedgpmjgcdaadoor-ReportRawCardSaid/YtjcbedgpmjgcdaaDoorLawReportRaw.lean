/- The law ReportRaw of the given program holds: whatever the input, it returns true, and the input reads as it did: its tied card (the listed variables of Go's library lie as the program's text lays them). -/
import Derived.Test.YtjcbedgpmjgcdaaDoorTie
import Derived.Test.YtjcbedgpmjgcdaaDoorCards
import Derived.Test.YtjcbedgpmjgcdaaDoorGrW1
import Derived.Test.YtjcbedgpmjgcdaaDoorRawA
import Derived.Test.YtjcbedgpmjgcdaaDoorAbsW
import Derived.Test.YtjcbedgpmjgcdaaDoorLaidR
import Derived.WalkKit
import Derived.ProofKit
import Derived.OpenShut
import Derived.ChangeOld
import Derived.Below
import Derived.SizedLaws
import Derived.Lay
import Derived.LaidMore
import Derived.SevenTiedAt
import Derived.Stop.Joined
namespace Go.Proofs.YtjcbedgpmjgcdaaDoor.reportRaw
open Go Go.ChangeShapes Go.WideShapes Go.ChangeAt Go.RowKit Go.Proofs.YtjcbedgpmjgcdaaDoor.Abs
set_option linter.unusedVariables false
theorem laidOut : laidOutB Tryd.prog = true := by kernel_rfl
def e_l17_Raw (x : l17_Raw) : List PV := [.int .i64 x.Steps, .sl (List.map e_r08_Itv x.Nodes), .bool x.Never, .sl (List.map e_r08_Itv x.Elem), .sl (List.map e_fix_Alarm x.Alarms)]
def ok_T25 (x : fix_Alarm) : Prop := InK .i64 x.Proc ∧ InK .i64 x.Edge ∧ InK .i64 x.Kind
theorem dec_T25 {H : Type} {enc : TypeId × Value → H} {w : World} (fuel : Nat) : Dec Tryd.prog enc w fuel 25 e_fix_Alarm ok_T25 := by
  cases fuel with
  | zero => exact dec0
  | succ fuel => exact dec_struct (N := 3) (fun x : Int × Int × Int × Unit => fix_Alarm.mk x.1 x.2.1 x.2.2.1) Tryd.underlying25 (by kernel_rfl) (seg_cons (sz := 1) rfl (by kernel_rfl) (dec_int Tryd.underlying3 fuel) (seg_cons (sz := 1) rfl (by kernel_rfl) (dec_int Tryd.underlying3 fuel) (seg_cons (sz := 1) rfl (by kernel_rfl) (dec_int Tryd.underlying3 fuel) (seg_nil (by decide))))) (fun _ => rfl) (fun x h => ⟨h.1, h.2.1, h.2.2.1⟩)

def ok_T35 (l : (List fix_Alarm)) : Prop := (∀ x ∈ l, ok_T25 x) ∧ l.length ≤ maxLen
theorem dec_T35 {H : Type} {enc : TypeId × Value → H} {w : World} (fuel : Nat) : Dec Tryd.prog enc w fuel 35 (fun l : (List fix_Alarm) => [.sl (List.map e_fix_Alarm l)]) ok_T35 := by
  cases fuel with
  | zero => exact dec0
  | succ fuel => exact dec_slice (e := e_fix_Alarm) (sz := 3) (ok := fun x => ok_T25 x) Tryd.underlying35 (by kernel_rfl) (by decide) (fun _ => rfl) (dec_T25 fuel)

def ok_T23 (x : r08_Itv) : Prop := InK .i64 x.Lo ∧ InK .i64 x.Hi
theorem dec_T23 {H : Type} {enc : TypeId × Value → H} {w : World} (fuel : Nat) : Dec Tryd.prog enc w fuel 23 e_r08_Itv ok_T23 := by
  cases fuel with
  | zero => exact dec0
  | succ fuel => exact dec_struct (N := 2) (fun x : Int × Int × Unit => r08_Itv.mk x.1 x.2.1) Tryd.underlying23 (by kernel_rfl) (seg_cons (sz := 1) rfl (by kernel_rfl) (dec_int Tryd.underlying3 fuel) (seg_cons (sz := 1) rfl (by kernel_rfl) (dec_int Tryd.underlying3 fuel) (seg_nil (by decide)))) (fun _ => rfl) (fun x h => ⟨h.1, h.2.1⟩)

def ok_T34 (l : (List r08_Itv)) : Prop := (∀ x ∈ l, ok_T23 x) ∧ l.length ≤ maxLen
theorem dec_T34 {H : Type} {enc : TypeId × Value → H} {w : World} (fuel : Nat) : Dec Tryd.prog enc w fuel 34 (fun l : (List r08_Itv) => [.sl (List.map e_r08_Itv l)]) ok_T34 := by
  cases fuel with
  | zero => exact dec0
  | succ fuel => exact dec_slice (e := e_r08_Itv) (sz := 2) (ok := fun x => ok_T23 x) Tryd.underlying34 (by kernel_rfl) (by decide) (fun _ => rfl) (dec_T23 fuel)

def ok_T37 (x : l17_Raw) : Prop := InK .i64 x.Steps ∧ ok_T34 x.Nodes ∧ True ∧ ok_T34 x.Elem ∧ ok_T35 x.Alarms
theorem dec_T37 {H : Type} {enc : TypeId × Value → H} {w : World} (fuel : Nat) : Dec Tryd.prog enc w fuel 37 e_l17_Raw ok_T37 := by
  cases fuel with
  | zero => exact dec0
  | succ fuel => exact dec_struct (N := 5) (fun x : Int × (List r08_Itv) × Bool × (List r08_Itv) × (List fix_Alarm) × Unit => l17_Raw.mk x.1 x.2.1 x.2.2.1 x.2.2.2.1 x.2.2.2.2.1) Tryd.underlying37 (by kernel_rfl) (seg_cons (sz := 1) rfl (by kernel_rfl) (dec_int Tryd.underlying3 fuel) (seg_cons (sz := 1) rfl (by kernel_rfl) (dec_T34 fuel) (seg_cons (sz := 1) rfl (by kernel_rfl) (dec_bool Tryd.underlying4 fuel) (seg_cons (sz := 1) rfl (by kernel_rfl) (dec_T34 fuel) (seg_cons (sz := 1) rfl (by kernel_rfl) (dec_T35 fuel) (seg_nil (by decide))))))) (fun _ => rfl) (fun x h => ⟨h.1, h.2.1, h.2.2.1, h.2.2.2.1, h.2.2.2.2.1⟩)
set_option maxRecDepth 100000 in
theorem lifted (os : Os) (started : os.Started) (H : Type) (enc : TypeId × Value → H) :
    ReturnsInHanded {} Tryd.checked os 4 .any (fun w args => (Rows.reportRawSpec.pre enc Tryd.prog Tryd.f4 [] false w args ∧ laidMetH Tryd.prog LaidR.laidL w) ∧ sizedMet enc Tryd.prog Tryd.f4 (OpenSpec.ofChange Rows.reportRawSpec) false w args)
      (Rows.reportRawSpec.post enc Tryd.prog Tryd.f4 false true false false) := by
  refine returnsInHanded_of_change_and (C := Tryd.checked) (X := fun w _ => laidMetH Tryd.prog LaidR.laidL w) (fun _ _ _ hh h => h.of_heap hh) LaidR.own started (by kernel_rfl) Tryd.func4
    (ChangeSpec.witness_shaped (enc := enc) (C := Tryd.checked) (os := os) (X := fun w _ => laidMetH Tryd.prog LaidR.laidL w) false (World.laidAll Tryd.prog os LaidR.laidL) #[.agg #[(.int .i64 0), (.slice none 0 0), (.bool false), (.slice none 0 0), (.slice none 0 0)]] 8 (World.laidAll_os _ _ _)
      (World.shaped_of_ZipB (by kernel_rfl) (by kernel_rfl)) (by kernel_rfl) (by kernel_rfl) (by kernel_rfl) (LaidR.met os _)) ?_
  intro W base args ds gs before hval0 hW _ hsz0 hL _
  have hval : ∀ (j : Nat) t v, Tryd.f4.params[j]? = some t → args[j]? = some v → Value.okWide Tryd.prog W .any base t v := hval0
  have hW' := hW
  obtain ⟨p, q, hA0, hV, rfl, hfz, hnd⟩ := hW
  have hA : DataW.TrodAll enc Tryd.prog W 0 (fun _ => true) true Tryd.f4.params.toList args.toList ds p := hA0
  rw [Tryd.params4] at hA hval
  obtain ⟨v0, vs0, d0, ds0, p0, q0, hargs, rfl, rfl, h0, r0⟩ := trodAll_cons hA
  obtain ⟨rfl, rfl, rfl⟩ := trodAll_nil r0
  obtain rfl : args = #[v0] := by cases args; simp_all
  obtain ⟨rfl, rfl⟩ := trodVars_none hV
  have h0k := h0
  obtain ⟨fuel0, hf0⟩ := h0
  obtain ⟨a0, ok0, l0⟩ := (dec_T37 fuel0) _ _ _ hf0
  have hm := l17_ReportRaw_meets (a0 := a0) (r := true) (raw_law ⟨inK ok0.1, fun x hx => ⟨inK (ok0.2.1.1 x hx).1, inK (ok0.2.1.1 x hx).2⟩, fun x hx => ⟨inK (ok0.2.2.2.1.1 x hx).1, inK (ok0.2.2.2.1.1 x hx).2⟩, fun x hx => ⟨inK (ok0.2.2.2.2.1 x hx).1, inK (ok0.2.2.2.2.1 x hx).2.1, inK (ok0.2.2.2.2.1 x hx).2.2⟩⟩)
  refine (calls_true hm (LaidR.glob_of hL) (L2.cons (agg_of l0 (Nat.le_of_ble_eq_true rfl)) L2.nil)).mono fun e W' ⟨he, bel⟩ => ?_
  subst he
  exact ⟨_, rfl, _, _, _, [], _, [], hW', trodAll_mk1 (shut_bool Tryd.underlying4 _), (trodAll_cons_mk (Below.trod laidOut (by kernel_rfl) (of_decide_eq_true (by kernel_rfl)) h0k bel (fun x hx => hW'.lt x (by simp [hx]))) trodAll_mk0), rfl, bel.frame _, fun h => by cases h⟩
theorem over : Rows.reportRawRow.holds Tryd.pinned (OpenSpec.ofChange Rows.reportRawSpec) :=
  OpenClaim.holds_of_wide 4 Tryd.f4 rfl rfl rfl rfl rfl rfl rfl ⟨rfl, rfl, rfl, rfl, rfl⟩ rfl rfl rfl rfl rfl (by kernel_rfl) Tryd.func4 (by kernel_rfl)
    (of_decide_eq_true (by kernel_rfl)) (by unfold Func.isWrapper; first | (rw [if_pos (by decide +kernel)]; kernel_rfl) | (rw [if_neg (by decide +kernel)]; exact ⟨rfl, rfl⟩))
    (fun os started H enc _ => lifted os started H enc)
theorem card : Rows.ReportRawCardSaid :=
  Claim7.holds_tied_plain_at .later [] [.data, .data, .data, .data] true (true, "246a6dfe0f5f01345e896fc701baa9913c652a503ae89d2ffd190aead96b4069") true
    over (fun _ h => by cases h) (by kernel_rfl) (fun _ h => by cases h) reportRaw_row_tie rfl ⟨rfl, rfl⟩ (by kernel_rfl) rfl
    (fun f fn hf hfn => by
      obtain rfl : f = 4 := Option.some.inj ((show Tryd.prog.funcNamed "jetsam/jetsamlaw17.ReportRaw" = some 4 by kernel_rfl).symm.trans hf) |>.symm
      obtain rfl : fn = Tryd.f4 := (Option.some.inj (Tryd.func4.symm.trans hfn)).symm
      exact ⟨by kernel_rfl, fun j t ht => by
        rw [Tryd.params4] at ht
        have hm : t ∈ [37] := by simpa using Array.mem_of_getElem? ht
        have hall : ([37].all fun u => !Tryd.prog.wantsStandIn u) = true := by kernel_rfl
        exact (show Tryd.prog.wantsStandIn t = false by simpa using List.all_eq_true.1 hall t hm)⟩)
    (by kernel_rfl)
#print axioms card
end Go.Proofs.YtjcbedgpmjgcdaaDoor.reportRaw
namespace Go.Proofs.YtjcbedgpmjgcdaaDoor
theorem reportRaw_card : Rows.ReportRawCardSaid := reportRaw.card
end Go.Proofs.YtjcbedgpmjgcdaaDoor
