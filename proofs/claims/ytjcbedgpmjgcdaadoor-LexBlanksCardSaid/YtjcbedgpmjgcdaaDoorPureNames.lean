/- Names of up to twelve signs are read; numbers up to the greatest one: the laws' pure statements. -/
import Derived.Test.YtjcbedgpmjgcdaaDoorPLexx8
import Derived.Test.YtjcbedgpmjgcdaaDoorPLexx10
import Derived.Test.YtjcbedgpmjgcdaaDoorPureLong
namespace Go.Proofs.YtjcbedgpmjgcdaaDoor.PureNames
open Go.RowKit Go.Proofs.YtjcbedgpmjgcdaaDoor.Hand Go.Proofs.YtjcbedgpmjgcdaaDoorW.PrintWords Go.Proofs.YtjcbedgpmjgcdaaDoorW.PrintLast Go.Proofs.YtjcbedgpmjgcdaaDoorW.PrintMore
open LexA LexB LexC PLex PureLong

def bsOf (l : Bs) : ByteArray := ⟨l.toArray⟩
theorem bsOf_list (l : Bs) : (bsOf l).data.toList = l := by simp [bsOf]
theorem bsOf_size (l : Bs) : (bsOf l).size = l.length := by rw [← size_list, bsOf_list]
theorem bsOf_app (s t : ByteArray) : s ++ t = bsOf (s.data.toList ++ t.data.toList) := list_ext (by rw [app_list, bsOf_list])
theorem bsOf_eq {s : ByteArray} {l : Bs} (h : s.data.toList = l) : s = bsOf l := list_ext (by rw [h, bsOf_list])

/-! ### LexNames -/
theorem runL_all (l r : Bs) (h : ∀ b ∈ l, isA b = true) (hr : ∀ b, r.head? = some b → isA b = false) : runL (l ++ r) = l.length := by
  induction l with
  | nil =>
    cases r with
    | nil => rfl
    | cons b r => rw [List.nil_append, runL_cons, if_neg (by rw [hr b rfl]; simp)]; rfl
  | cons b l ih =>
    rw [List.cons_append, runL_cons, if_pos (h b List.mem_cons_self), ih (fun x hx => h x (List.mem_cons_of_mem _ hx))]; rfl
theorem runL_all' (l : Bs) (h : ∀ b ∈ l, isA b = true) : runL l = l.length := by
  have := runL_all l [] h (by simp); simpa using this
theorem nm_not (c : UInt8) (m : Nat) : c :: List.replicate m 49 ∉ resv := by
  intro h
  unfold resv at h
  cases m with
  | zero => simp at h
  | succ m => simp [List.replicate_succ] at h
section
variable (c : UInt8) (hc : isL c = true) (m : Nat)
include hc
theorem nm_all : ∀ b ∈ c :: List.replicate m 49, isA b = true := by
  intro b hb
  rcases List.mem_cons.mp hb with rfl | hb
  · simp [isA, hc]
  · rw [List.mem_replicate] at hb; rw [hb.2]; rfl
theorem nm_lex : lexS (32 :: c :: List.replicate m 49) 0 = if 12 < m + 1 then ([], some (1, 3)) else ([⟨1, c :: List.replicate m 49, 0, 1⟩], none) := by
  have hr : runL (c :: List.replicate m 49) = m + 1 := by rw [runL_all' _ (nm_all c hc m)]; simp
  have hB : isB c = false := by
    simp only [isL, Bool.and_eq_true, decide_eq_true_eq] at hc
    simp only [isB, Bool.or_eq_false_iff, beq_eq_false_iff_ne]
    constructor <;> (rintro rfl; revert hc; decide)
  have ht : (c :: List.replicate m 49).take (m + 1) = c :: List.replicate m 49 := List.take_of_length_le (by simp)
  rw [lexS_blank _ _ rfl]
  by_cases h : 12 < m + 1
  · rw [if_pos h, lexS_error (e := 3) hB]
    rw [word1_cons, if_pos hc, hr, if_pos h]
  · rw [if_neg h, lexS_ok (w := ⟨1, m + 1, 0⟩) hB]
    · dsimp only
      rw [ht, List.drop_of_length_le (by simp), lexS_nil]
    · rw [word1_cons, if_pos hc, hr, if_neg h, ht, if_neg (nm_not c m)]
theorem nm_lex1 : lexS (49 :: c :: List.replicate m 49) 0 = ([], some (0, 3)) := by
  have hr : runL (49 :: c :: List.replicate m 49) = m + 2 := by
    rw [runL_cons, if_pos (by decide), runL_all' _ (nm_all c hc m)]; simp
  have ht : (49 :: c :: List.replicate m 49).take (m + 2) = 49 :: c :: List.replicate m 49 := List.take_of_length_le (by simp)
  have hD : isD c = false := by
    simp only [isL, Bool.and_eq_true, decide_eq_true_eq] at hc
    simp only [isD, Bool.and_eq_false_iff, decide_eq_false_iff_not]; omega
  rw [lexS_error (e := 3) rfl]
  rw [word1_cons, if_neg (by decide), if_pos (by decide), hr, ht, if_neg]
  simp [okNum, hD]
theorem names_fin (n : Nat) (hn : n = m + 1) (hs : n ≤ 1000) : Ev (fun k => jetsamlaw01_LexNames.l0 k (n : Int) (bsOf (c :: List.replicate m 49))) true := by
  have hsz : (bsOf (c :: List.replicate m 49)).size = n := by rw [bsOf_size]; simp; omega
  have e1 : (⟨#[32]⟩ : ByteArray) ++ bsOf (c :: List.replicate m 49) = bsOf (32 :: c :: List.replicate m 49) := by rw [bsOf_app, bsOf_list]; rfl
  have e2 : (⟨#[49]⟩ : ByteArray) ++ bsOf (c :: List.replicate m 49) = bsOf (49 :: c :: List.replicate m 49) := by rw [bsOf_app, bsOf_list]; rfl
  have h1 := lex_ev (bsOf (32 :: c :: List.replicate m 49)) (by rw [bsOf_size]; simp; omega)
  have h2 := lex_ev (bsOf (49 :: c :: List.replicate m 49)) (by rw [bsOf_size]; simp; omega)
  rw [bsOf_list, nm_lex c hc] at h1
  rw [bsOf_list, nm_lex1 c hc] at h2
  refine Ev.step (f := fun k => (lex_Lex.f k (bsOf (32 :: c :: List.replicate m 49))).bind fun bt271 => ((lex_Lex.f k (bsOf (49 :: c :: List.replicate m 49))).bind fun bt276 => ((jetsamlaw01_reads.f k).bind fun t281 => (if t281 = true then (jetsamlaw01_LexNames.j1 k (n : Int) (bsOf (c :: List.replicate m 49)) bt271.1 bt271.2.1 bt271.2.2 (bt276.2.2 != 3)) else (jetsamlaw01_LexNames.j1 k (n : Int) (bsOf (c :: List.replicate m 49)) bt271.1 bt271.2.1 bt271.2.2 true))))) (fun k => ?_) ?_
  · simp only [jetsamlaw01_LexNames.l0]
    rw [if_neg (by omega), if_pos (by omega), e1, e2]
  · refine Ev.bind h1 (Ev.bind h2 (Ev.bind reads_ev ?_))
    refine Ev.congr (fun k => if_pos rfl) ?_
    have hf2 : ((fin67 (bsOf (49 :: c :: List.replicate m 49)).size ([], some (0, 3))).2.2 != 3) = false := by rw [fin_app]; rfl
    rw [hf2]
    refine ev_one (fun k => ?_)
    simp only [jetsamlaw01_LexNames.j1, Bool.false_eq_true, if_false]
    by_cases h : 12 < m + 1
    · rw [if_pos h, fin_app, if_pos (by omega)]; simp
    · rw [if_neg h, if_neg (by omega)]
      simp [fin67, told, t67, rd_T67, Go.ByteArray.toList_eq, bsOf_list]
theorem names_l0 (n : Nat) (hs : n ≤ 1000) : ∀ (d i : Nat), n - (i + 1) = d → i + 1 ≤ n → Ev (fun k => jetsamlaw01_LexNames.l0 k (n : Int) (bsOf (c :: List.replicate i 49))) true := by
  intro d
  induction d with
  | zero => intro i hd hi; exact names_fin c hc i n (by omega) hs
  | succ d ih =>
    intro i hd hi
    have e1 : bsOf (c :: List.replicate i 49) ++ (⟨#[49]⟩ : ByteArray) = bsOf (c :: List.replicate (i + 1) 49) := by
      rw [bsOf_app, bsOf_list]; simp [List.replicate_succ', bsOf]
    refine Ev.step (f := fun k => jetsamlaw01_LexNames.l0 k (n : Int) (bsOf (c :: List.replicate (i + 1) 49))) (fun k => ?_) (ih (i + 1) (by omega) (by omega))
    simp only [jetsamlaw01_LexNames.l0]
    have hsz : (bsOf (c :: List.replicate i 49)).size = i + 1 := by rw [bsOf_size]; simp
    rw [if_pos (by omega), if_pos (by omega), e1]
end
theorem names_pure : jetsamlaw01_LexNames.Pure := by
  intro a b ha hb
  obtain ⟨j, hj, e⟩ := mod_u a 16 (by omega) (by omega)
  have hb2 : 0 ≤ b ∧ b ≤ 255 := by simpa [Lit.wf, IntKind.min, IntKind.max, IntKind.signed, IntKind.bits] using hb
  refine Ev.rounds (r := true) ?_
  unfold jetsamlaw01_LexNames.f
  rw [e, wrap_id (by omega) (by omega)]
  have hm : Int.tmod b 26 = b % 26 := Int.tmod_eq_emod_of_nonneg hb2.1
  have hc : strOfNums [(97 + Int.tmod b 26) % 256] = bsOf ((UInt8.ofNat (97 + (b % 26).toNat)) :: List.replicate 0 49) := by
    rw [hm]
    refine bsOf_eq ?_
    rw [nums_list]
    simp only [List.map_cons, List.map_nil, List.replicate_zero]
    congr 2; omega
  rw [hc, show (1 : Int) + (j : Int) = ((1 + j : Nat) : Int) by omega]
  refine names_l0 _ ?_ (1 + j) (by omega) j 0 (by omega) (by omega)
  have : (UInt8.ofNat (97 + (b % 26).toNat)).toNat = 97 + (b % 26).toNat := by
    rw [UInt8.toNat_ofNat']; omega
  simp only [isL, this, Bool.and_eq_true, decide_eq_true_eq]; omega
end Go.Proofs.YtjcbedgpmjgcdaaDoor.PureNames
