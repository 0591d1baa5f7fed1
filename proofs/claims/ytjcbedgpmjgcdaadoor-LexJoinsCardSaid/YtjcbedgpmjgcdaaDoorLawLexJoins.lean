/- The law LexJoins of the given program holds: whatever the input, it returns true, and the input reads as it did: its tied card (the listed variables of Go's library lie as the program's text lays them). -/
import Derived.Test.YtjcbedgpmjgcdaaDoorTie
import Derived.Test.YtjcbedgpmjgcdaaDoorCards
import Derived.Test.YtjcbedgpmjgcdaaDoorJoin
import Derived.Test.YtjcbedgpmjgcdaaDoorPureJoins
import Derived.Test.YtjcbedgpmjgcdaaDoorLaid
import Derived.WalkKit
import Derived.ProofKit
import Derived.OpenShut
import Derived.ShutString
import Derived.ChangeOld
import Derived.Below
import Derived.SizedLaws
import Derived.Lay
import Derived.LaidMore
import Derived.SevenTiedAt
import Derived.Stop.Joined
import Derived.SliceStrings
import Derived.Carry
namespace Go.Proofs.YtjcbedgpmjgcdaaDoor.lexJoins
open Go.ChangeShapes Go.WideShapes Go.ChangeAt Go.RowKit Go.Proofs.YtjcbedgpmjgcdaaDoorW.PrintWords
open Go.ChangeMaps (open_string shut_string)
open Go.Proofs.YtjcbedgpmjgcdaaDoorW.PrintLast Go.Proofs.YtjcbedgpmjgcdaaDoorW.PrintMore
set_option linter.unusedVariables false
theorem laidOut : laidOutB Tryd.prog = true := by kernel_rfl
theorem kd_strs {W : World} {a : Addr} {len : Nat} {ss : List ByteArray} (hl : len ≤ ss.length) (hm : len ≤ 9223372036854775807) (hcell : ∀ i, i < ss.length → W.cell? (a.add i) = some (.string (ss.getD i ByteArray.empty))) :
    Kd.C Kd.string W (some a) (ss.take len).length (ss.take len) := by
  refine ⟨rfl, by rw [List.length_take]; omega, fun _ => ⟨a, rfl, fun j p hj => ?_⟩⟩
  refine ⟨[.string p], rfl, rfl, fun i u hu => ?_⟩
  obtain ⟨hj1, hj2⟩ := List.getElem?_eq_some_iff.1 hj
  have hj3 := hj1
  rw [List.length_take] at hj3
  have hi : i = 0 := by
    have := (List.getElem?_eq_some_iff.1 hu).1
    simp at this; omega
  subst hi
  have hu' : u = .string p := by simpa using hu.symm
  subst hu'
  have e : ss.getD j ByteArray.empty = p := by
    rw [List.getElem_take] at hj2
    rw [List.getD_eq_getElem?_getD, List.getElem?_eq_getElem (by omega)]; exact hj2
  have h := hcell j (by omega)
  rw [e] at h
  show W.cell? (a.add (j * 1 + 0)) = _
  rw [Nat.mul_one, Nat.add_zero]
  exact h
set_option maxRecDepth 100000 in
theorem lifted (os : Os) (started : os.Started) (H : Type) (enc : TypeId × Value → H) :
    ReturnsInHanded {} Tryd.checked os 6 .any (fun w args => (Rows.lexJoinsSpec.pre enc Tryd.prog Tryd.f6 [] false w args ∧ laidMetH Tryd.prog Laid.laidL w) ∧ sizedMet enc Tryd.prog Tryd.f6 (OpenSpec.ofChange Rows.lexJoinsSpec) false w args)
      (Rows.lexJoinsSpec.post enc Tryd.prog Tryd.f6 false true false false) := by
  refine returnsInHanded_of_change_and (C := Tryd.checked) (X := fun w _ => laidMetH Tryd.prog Laid.laidL w) (fun _ _ _ hh h => h.of_heap hh) Laid.own started (by kernel_rfl) Tryd.func6
    (ChangeSpec.witness_shaped (enc := enc) (C := Tryd.checked) (os := os) (X := fun w _ => laidMetH Tryd.prog Laid.laidL w) false (World.laidAll Tryd.prog os Laid.laidL) #[.slice none 0 0, .bool false] 8 (World.laidAll_os _ _ _)
      (World.shaped_of_ZipB (by kernel_rfl) (by kernel_rfl)) (by kernel_rfl) (by kernel_rfl) (by kernel_rfl) (Laid.met os _)) ?_
  intro W base args ds gs before hval0 hW _ hsz0 hL _
  have hsz : (DataW.weightsEach Tryd.prog (Tryd.f6.params.toList ++ Rows.lexJoinsSpec.plain.varTypes Tryd.prog) (ds ++ gs)).all (· ≤ reachBytes) = true := hsz0
  have hval : ∀ (j : Nat) t v, Tryd.f6.params[j]? = some t → args[j]? = some v → Value.okWide Tryd.prog W .any base t v := hval0
  have hW' := hW
  obtain ⟨p, q, hA0, hV, rfl, hfz, hnd⟩ := hW
  have hA : DataW.TrodAll enc Tryd.prog W 0 (fun _ => true) true Tryd.f6.params.toList args.toList ds p := hA0
  rw [Tryd.params6] at hA hval hsz
  obtain ⟨v0, vs0, d0, ds0, p0, q0, hargs, rfl, rfl, h0, r0⟩ := trodAll_cons hA
  obtain ⟨v1, vs1, d1, ds1, p1, q1, rfl, rfl, rfl, h1, r1⟩ := trodAll_cons r0
  obtain ⟨rfl, rfl, rfl⟩ := trodAll_nil r1
  obtain rfl : args = #[v0, v1] := by cases args; simp_all
  obtain ⟨rfl, rfl⟩ := trodVars_none hV
  obtain ⟨a1, rfl, rfl, rfl⟩ := open_bool Tryd.underlying4 (hval 1 4 v1 rfl rfl) h1
  obtain ⟨ad, len, cap, rfl⟩ := okWide_slice Tryd.underlying70 (hval 0 70 v0 rfl rfl)
  have h0k := h0
  obtain ⟨fuel, hf⟩ := h0
  have hLd := Laid.laid_of hL
  clear hA0 hval0 hsz0 hsz hL
  have hlt : ∀ x ∈ p0, x.block < W.heap.size := fun x hx => hW'.lt x (by simp [hx])
  have fin : ∀ (l0 : List ByteArray) (A0 : Option Addr) (c0 : Nat), Kd.C Kd.string W A0 l0.length l0 → l0.length ≤ c0 →
      Calls Tryd.prog 6 #[.slice A0 l0.length c0, .bool a1] W fun e W' => e = .returned (.bool true) ∧ Below W.heap.size W W' := by
    intro l0 A0 c0 hr hc
    obtain ⟨k, hk⟩ := PureJoins.joins_ev l0 a1
    exact PLex.jetsamlaw01_LexJoins.calls k A0 c0 l0 a1 true W hr hc (hk k (Nat.le_refl k)) ⟨hLd⟩
  have all : ∃ (l0 : List ByteArray), len = l0.length ∧ l0.length ≤ cap ∧ Kd.C Kd.string W ad l0.length l0 := by
    rcases open_strings Tryd.underlying70 Tryd.underlying9 (by kernel_rfl) hf with ⟨hcs, hx⟩ | ⟨a, len', cap', ss, hcs, _, hl, hm, hz, hx, hcell, hws⟩
    · simp [Value.cells] at hcs
      obtain ⟨rfl, rfl, rfl⟩ := hcs
      exact ⟨[], rfl, Nat.le_refl _, rfl, by simp, fun h => absurd h (by simp)⟩
    · simp [Value.cells] at hcs
      obtain ⟨rfl, rfl, rfl⟩ := hcs
      simp only [if_true] at hz
      unfold maxLen at hm
      refine ⟨ss.take len, by rw [List.length_take]; omega, by rw [List.length_take]; omega, kd_strs (by omega) (by omega) hcell⟩
  obtain ⟨l0, rfl, hc, hr⟩ := all
  refine (fin l0 ad cap hr hc).mono fun e W' ⟨he, bel⟩ => ?_
  subst he
  exact ⟨_, rfl, _, _, _, [], _, [], hW', trodAll_mk1 (shut_bool Tryd.underlying4 _), (trodAll_cons_mk (Below.trod laidOut (by kernel_rfl) (of_decide_eq_true (by kernel_rfl)) h0k bel hlt) (trodAll_cons_mk (shut_bool Tryd.underlying4 _) trodAll_mk0)), rfl, bel.frame _, fun h => by cases h⟩
theorem over : Rows.lexJoinsRow.holds Tryd.pinned (OpenSpec.ofChange Rows.lexJoinsSpec) :=
  OpenClaim.holds_of_wide 6 Tryd.f6 rfl rfl rfl rfl rfl rfl rfl ⟨rfl, rfl, rfl, rfl, rfl⟩ rfl rfl rfl rfl rfl (by kernel_rfl) Tryd.func6 (by kernel_rfl)
    (of_decide_eq_true (by kernel_rfl)) (by unfold Func.isWrapper; first | (rw [if_pos (by decide +kernel)]; kernel_rfl) | (rw [if_neg (by decide +kernel)]; exact ⟨rfl, rfl⟩))
    (fun os started H enc _ => lifted os started H enc)
theorem card : Rows.LexJoinsCardSaid :=
  Claim7.holds_tied_plain_at .later [] [.data, .data, .data, .data, .sentinel, .sentinel, .pinned] true (true, "246a6dfe0f5f01345e896fc701baa9913c652a503ae89d2ffd190aead96b4069") true
    over (fun _ h => by cases h) (by kernel_rfl) (fun _ h => by cases h) lexJoins_row_tie rfl ⟨rfl, rfl⟩ (by kernel_rfl) rfl
    (fun f fn hf hfn => by
      obtain rfl : f = 6 := Option.some.inj ((show Tryd.prog.funcNamed "jetsam/jetsamlaw01.LexJoins" = some 6 by kernel_rfl).symm.trans hf) |>.symm
      obtain rfl : fn = Tryd.f6 := (Option.some.inj (Tryd.func6.symm.trans hfn)).symm
      exact ⟨by kernel_rfl, fun j t ht => by
        rw [Tryd.params6] at ht
        have hm : t ∈ [70, 4] := by simpa using Array.mem_of_getElem? ht
        have hall : ([70, 4].all fun u => !Tryd.prog.wantsStandIn u) = true := by kernel_rfl
        exact (show Tryd.prog.wantsStandIn t = false by simpa using List.all_eq_true.1 hall t hm)⟩)
    (by kernel_rfl)
#print axioms card
end Go.Proofs.YtjcbedgpmjgcdaaDoor.lexJoins
namespace Go.Proofs.YtjcbedgpmjgcdaaDoor
/-- The card, under a short name, for the claim. -/
theorem lexJoins_card : Rows.LexJoinsCardSaid := lexJoins.card
end Go.Proofs.YtjcbedgpmjgcdaaDoor
