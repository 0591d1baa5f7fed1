/- Numbers up to the greatest one are read, greater ones, and ones that are written otherwise, aren't: the law's pure statement. -/
import Derived.Test.YtjcbedgpmjgcdaaDoorPureNames
namespace Go.Proofs.YtjcbedgpmjgcdaaDoor.PureNumbers
open Go.RowKit Go.Proofs.YtjcbedgpmjgcdaaDoor.Hand Go.Proofs.YtjcbedgpmjgcdaaDoorW.PrintWords Go.Proofs.YtjcbedgpmjgcdaaDoorW.PrintLast Go.Proofs.YtjcbedgpmjgcdaaDoorW.PrintMore
open LexA LexB LexC PLex PureLong PureNames

def dg (n : Nat) : UInt8 := UInt8.ofNat (48 + n)
def decN (n : Nat) : Bs := if _h : n < 10 then [dg n] else decN (n / 10) ++ [dg (n % 10)]
termination_by n
decreasing_by omega
theorem dg_nat {n : Nat} (h : n < 10) : (dg n).toNat = 48 + n := by unfold dg; rw [UInt8.toNat_ofNat']; omega
theorem dg_isD {n : Nat} (h : n < 10) : isD (dg n) = true := by simp only [isD, dg_nat h, Bool.and_eq_true, decide_eq_true_eq]; omega
theorem dec_lt {n : Nat} (h : n < 10) : decN n = [dg n] := by rw [decN, dif_pos h]
theorem dec_ge {n : Nat} (h : ¬ n < 10) : decN n = decN (n / 10) ++ [dg (n % 10)] := by rw [decN, dif_neg h]
theorem dec_isD (n : Nat) : ∀ b ∈ decN n, isD b = true := by
  induction n using Nat.strongRecOn with
  | _ n ih =>
  intro b hb
  by_cases h : n < 10
  · rw [dec_lt h] at hb; simp at hb; rw [hb]; exact dg_isD h
  · rw [dec_ge h] at hb
    rcases List.mem_append.mp hb with hb | hb
    · exact ih _ (by omega) b hb
    · simp at hb; rw [hb]; exact dg_isD (by omega)
theorem dec_val (n : Nat) : val (decN n) = n := by
  induction n using Nat.strongRecOn with
  | _ n ih =>
  by_cases h : n < 10
  · rw [dec_lt h]; simp [val, dg_nat h]
  · rw [dec_ge h]
    have := ih (n / 10) (by omega)
    unfold val at this ⊢
    rw [List.foldl_append, this]
    simp [dg_nat (show n % 10 < 10 by omega)]
    omega
theorem dec_ne (n : Nat) : decN n ≠ [] := by
  by_cases h : n < 10
  · rw [dec_lt h]; simp
  · rw [dec_ge h]; simp
theorem dec_head (n : Nat) (h0 : 0 < n) : (decN n).head? ≠ some 48 := by
  induction n using Nat.strongRecOn with
  | _ n ih =>
  by_cases h : n < 10
  · rw [dec_lt h]
    intro e
    have : (dg n).toNat = 48 := by simp at e; rw [e]; rfl
    rw [dg_nat h] at this; omega
  · rw [dec_ge h]
    have := ih (n / 10) (by omega) (by omega)
    cases hd : decN (n / 10) with
    | nil => exact absurd hd (dec_ne _)
    | cons b r => rw [hd] at this; simpa using this
theorem dec_len (n : Nat) (h : n ≤ 2147483647) : (decN n).length ≤ 10 := by
  cases hd : decN n with
  | nil => simp
  | cons c r =>
    by_cases h0 : 0 < n
    · have hc : isD c = true := dec_isD n c (by rw [hd]; exact List.mem_cons_self)
      have h48 : c ≠ 48 := fun e => dec_head n h0 (by rw [hd, e]; rfl)
      exact val_len c r hc h48 (by rw [← hd, dec_val]; exact h)
    · have : n = 0 := by omega
      subst this
      rw [dec_lt (by omega)] at hd
      injection hd with _ hd
      rw [← hd]; simp
theorem okNum_dec (n : Nat) : okNum (decN n) = decide (n ≤ 2147483647) := by
  have h2 : (decN n).all isD = true := List.all_eq_true.mpr (dec_isD n)
  unfold okNum
  rw [h2, dec_val]
  by_cases h : n ≤ 2147483647
  · have h1 : (decide (1 < (decN n).length) && (decN n).head? == some 48) = false := by
      by_cases h0 : 0 < n
      · have := dec_head n h0
        have : ((decN n).head? == some 48) = false := by simpa using this
        rw [this]; simp
      · have : n = 0 := by omega
        subst this; rw [dec_lt (by omega)]; rfl
    rw [h1]; simp [h, dec_len n h]
  · simp [h]
theorem okNum_nought (n : Nat) : okNum (48 :: decN n) = false := by
  have h := dec_ne n
  unfold okNum
  have : decide (1 < (48 :: decN n).length) = true := by
    cases hd : decN n with
    | nil => exact absurd hd h
    | cons a b => simp
  rw [this]; simp

/-! ### the text -/
theorem num_lex (L : Bs) (hL : L ≠ []) (hD : ∀ b ∈ L, isD b = true) : lexS (L ++ [32, 120]) 0 =
    if okNum L then ([⟨2, L, val L, 0⟩, ⟨1, [120], 0, L.length + 1⟩], none) else ([], some (0, 3)) := by
  cases L with
  | nil => exact absurd rfl hL
  | cons c r =>
    have hc := hD c List.mem_cons_self
    have hl : isL c = false := by
      simp only [isD, Bool.and_eq_true, decide_eq_true_eq] at hc
      simp only [isL, Bool.and_eq_false_iff, decide_eq_false_iff_not]; omega
    have hB : isB c = false := by
      simp only [isD, Bool.and_eq_true, decide_eq_true_eq] at hc
      simp only [isB, Bool.or_eq_false_iff, beq_eq_false_iff_ne]
      constructor <;> (rintro rfl; revert hc; decide)
    have hr : runL ((c :: r) ++ [32, 120]) = (c :: r).length := runL_all _ _ (fun b hb => by simp [isA, hD b hb]) (by rintro b hb; simp at hb; rw [← hb]; rfl)
    have ht : ((c :: r) ++ [32, 120]).take (c :: r).length = c :: r := by simp
    have hdr : ((c :: r) ++ [32, 120]).drop (c :: r).length = [32, 120] := by simp
    rw [List.cons_append] at hr ht hdr ⊢
    by_cases ho : okNum (c :: r) = true
    · rw [if_pos ho, lexS_ok (w := ⟨2, (c :: r).length, val (c :: r)⟩) hB]
      · dsimp only
        rw [ht, hdr, lexS_blank _ _ rfl, lexS_ok (w := ⟨1, 1, 0⟩) rfl rfl]
        show (_ :: (_ :: (lexS [] _).1), (lexS [] _).2) = _
        rw [lexS_nil]; simp
      · rw [word1_cons, if_neg (by simp [hl]), if_pos hc, hr, ht, if_pos ho]
    · rw [if_neg ho, lexS_error (e := 3) hB]
      rw [word1_cons, if_neg (by simp [hl]), if_pos hc, hr, ht, if_neg ho]
theorem num_j1 (n : Nat) (x1 : Bool) (L : Bs) (hL : L ≠ []) (hs : L.length ≤ 1000) (hD : ∀ b ∈ L, isD b = true)
    (ho : okNum L = (!x1 && decide (n ≤ 2147483647))) (hv : n ≤ 2147483647 → x1 = false → val L = n) :
    Ev (fun k => jetsamlaw01_LexNumbers.j1 k (n : Int) x1 (bsOf L)) true := by
  have e1 : bsOf L ++ (⟨#[32, 120]⟩ : ByteArray) = bsOf (L ++ [32, 120]) := by rw [bsOf_app, bsOf_list]
  have h1 := lex_ev (bsOf (L ++ [32, 120])) (by rw [bsOf_size]; simp; omega)
  rw [bsOf_list, num_lex L hL hD] at h1
  refine Ev.step (f := fun k => (lex_Lex.f k (bsOf (L ++ [32, 120]))).bind fun bt227 => ((jetsamlaw01_reads.f k).bind fun t232 => (if t232 = true then (if x1 = true then (if bt227.2.2 = 3 then (if bt227.2.1 = 0 then (some ((bt227.1.length : Int) == 0)) else (some false)) else (some false)) else (if (n : Int) > 2147483647 then (if bt227.2.2 = 3 then (if bt227.2.1 = 0 then (some ((bt227.1.length : Int) == 0)) else (some false)) else (some false)) else (if bt227.2.2 = 0 then (if (bt227.1.length : Int) = 2 then (if 0 < (bt227.1.length : Int) then (if ((rd_T67 bt227.1 0).f2) = (wrap64 (n : Int)) then (if 1 < (bt227.1.length : Int) then (some (((rd_T67 bt227.1 1).f0) == 1)) else (none)) else (some false)) else (none)) else (some false)) else (some false)))) else (some false)))) (fun k => ?_) (Ev.bind h1 (Ev.bind reads_ev (Ev.congr (fun k => if_pos rfl) ?_)))
  · simp only [jetsamlaw01_LexNumbers.j1]
    rw [if_pos (by rw [bsOf_size]; omega), e1]
  · by_cases hok : okNum L = true
    · rw [hok] at ho
      have hx : x1 = false := by
        cases x1 with
        | false => rfl
        | true => rw [Bool.not_true, Bool.false_and] at ho; cases ho
      have hn : n ≤ 2147483647 := of_decide_eq_true (by rw [hx, Bool.not_false, Bool.true_and] at ho; exact ho.symm)
      have hv2 := hv hn hx
      clear hv ho
      subst hx
      refine Ev.congr (f := fun _ => some true) (fun k => ?_) (Ev.now _)
      rw [if_pos hok, if_neg (by simp), if_neg (by omega), hv2]
      have hw : wrap64 (n : Int) = n := wrap_id (by omega) (by omega)
      simp [fin67, told, t67, rd_T67, hw]
    · rw [if_neg hok]
      refine Ev.congr (f := fun _ => some true) (fun k => ?_) (Ev.now _)
      rw [fin_app]
      have hno : x1 = true ∨ ¬ n ≤ 2147483647 := by
        cases x1 with
        | true => left; rfl
        | false => right; intro h; apply hok; rw [ho]; simp [h]
      rcases hno with h | h
      · rw [if_pos h]; simp
      · by_cases hx : x1 = true
        · rw [if_pos hx]; simp
        · rw [if_neg hx, if_pos (by omega)]; simp
theorem dg_num (q : Nat) (hq : q ≤ 4294967295) : strOfNums [((48 + (Int.tmod (q : Int) 10)) % 4294967296) % 256] = bsOf [dg (q % 10)] := by
  refine bsOf_eq ?_
  rw [nums_list]
  have : Int.tmod (q : Int) 10 = ((q % 10 : Nat) : Int) := by rw [Int.tmod_eq_emod_of_nonneg (by omega)]; omega
  rw [this]
  simp only [List.map_cons, List.map_nil, dg]
  congr 2; omega
theorem num_fin (n : Nat) (x1 : Bool) (L : Bs) (hL : L = decN n) (hs : L.length ≤ 100) :
    Ev (fun k => jetsamlaw01_LexNumbers.l0 k (n : Int) x1 (bsOf L) 0) true := by
  have hne : L ≠ [] := by rw [hL]; exact dec_ne n
  have hD : ∀ b ∈ L, isD b = true := by rw [hL]; exact dec_isD n
  have hD2 : ∀ b ∈ 48 :: L, isD b = true := by
    intro b hb; rcases List.mem_cons.mp hb with rfl | hb
    · rfl
    · exact hD b hb
  have e1 : (⟨#[48]⟩ : ByteArray) ++ bsOf L = bsOf (48 :: L) := by rw [bsOf_app, bsOf_list]; rfl
  cases x1 with
  | true =>
    refine Ev.step (f := fun k => jetsamlaw01_LexNumbers.j1 k (n : Int) true (bsOf (48 :: L))) (fun k => ?_) (num_j1 n true (48 :: L) (by simp) (by simp; omega) hD2 (by rw [hL, okNum_nought]; rfl) (by intro _ h; cases h))
    simp only [jetsamlaw01_LexNumbers.l0]
    rw [if_neg (by omega), Go.ByteArray.toList_eq, bsOf_list, if_neg hne, if_pos trivial, if_pos (by rw [bsOf_size]; omega), e1]
  | false =>
    refine Ev.step (f := fun k => jetsamlaw01_LexNumbers.j1 k (n : Int) false (bsOf L)) (fun k => ?_) (num_j1 n false L hne (by omega) hD (by rw [hL, okNum_dec]; simp) (by intro _ _; rw [hL, dec_val]))
    simp only [jetsamlaw01_LexNumbers.l0]
    rw [if_neg (by omega), Go.ByteArray.toList_eq, bsOf_list, if_neg hne, if_neg (by decide)]
theorem num_l0 (n : Nat) (x1 : Bool) : ∀ (d q : Nat) (L : Bs), q < 10 ^ d → q ≤ 4294967295 → (0 < q ∨ L = []) → decN q ++ L = decN n → L.length + d ≤ 60 →
    Ev (fun k => jetsamlaw01_LexNumbers.l0 k (n : Int) x1 (bsOf L) (q : Int)) true := by
  intro d
  induction d with
  | zero =>
    intro q L hq hq2 h0 hL hs
    have : q = 0 := by simpa using hq
    subst this
    have hLn : L = [] := h0.elim (fun h => absurd h (by omega)) id
    subst hLn
    have e1 : bsOf [dg 0] ++ bsOf [] = bsOf [dg 0] := by rw [bsOf_app, bsOf_list, bsOf_list]; rfl
    refine Ev.step (f := fun k => jetsamlaw01_LexNumbers.l0 k (n : Int) x1 (bsOf [dg 0]) 0) (fun k => ?_) (num_fin n x1 [dg 0] (by rw [← hL, dec_lt (by omega)]; rfl) (by simp))
    simp only [jetsamlaw01_LexNumbers.l0]
    have := dg_num 0 (by omega)
    rw [if_neg (by omega), Go.ByteArray.toList_eq, bsOf_list, if_pos rfl, Option.bind_some]
    rw [show ((0 : Nat) : Int) = 0 from rfl] at this
    rw [show ((0 : Nat) : Int) = 0 from rfl, this, if_pos (by rw [bsOf_size, bsOf_size]; simp), e1]; rfl
  | succ d ih =>
    intro q L hq hq2 h0 hL hs
    have e1 : bsOf [dg (q % 10)] ++ bsOf L = bsOf (dg (q % 10) :: L) := by rw [bsOf_app, bsOf_list, bsOf_list]; rfl
    have hdv : (Int.tdiv (q : Int) 10) % 4294967296 = ((q / 10 : Nat) : Int) := by
      rw [Int.tdiv_eq_ediv_of_nonneg (by omega)]; omega
    have step : ∀ k, jetsamlaw01_LexNumbers.l0 (k + 1) (n : Int) x1 (bsOf L) (q : Int) = jetsamlaw01_LexNumbers.l0 k (n : Int) x1 (bsOf (dg (q % 10) :: L)) ((q / 10 : Nat) : Int) := by
      intro k
      simp only [jetsamlaw01_LexNumbers.l0]
      have hz : (bsOf [dg (q % 10)]).size + (bsOf L).size ≤ 9223372036854775807 := by rw [bsOf_size, bsOf_size]; simp; omega
      by_cases hp : 0 < q
      · rw [if_pos (by omega), Option.bind_some, dg_num q hq2, if_pos hz, e1, hdv]
      · have hLn : L = [] := h0.elim (fun h => absurd h hp) id
        rw [if_neg (by omega), Go.ByteArray.toList_eq, bsOf_list, if_pos hLn, Option.bind_some, dg_num q hq2, if_pos hz, e1, hdv]
    refine Ev.step step ?_
    by_cases h10 : q < 10
    · rw [show q / 10 = 0 by omega, show q % 10 = q by omega]
      exact num_fin n x1 _ (by rw [← hL, dec_lt h10]; rfl) (by simp; omega)
    · refine ih (q / 10) _ (by rw [Nat.pow_succ] at hq; omega) (by omega) (.inl (by omega)) ?_ (by simp; omega)
      rw [← hL, dec_ge h10]; simp
theorem numbers_pure : jetsamlaw01_LexNumbers.Pure := by
  intro a b ha
  have ha2 : 0 ≤ a ∧ a ≤ 4294967295 := by simpa [Lit.wf, IntKind.min, IntKind.max, IntKind.signed, IntKind.bits] using ha
  obtain ⟨n, rfl⟩ := Int.eq_ofNat_of_zero_le ha2.1
  refine Ev.rounds (r := true) ?_
  exact num_l0 n b 10 n [] (by omega) (by omega) (.inr rfl) (by simp) (by simp)
end Go.Proofs.YtjcbedgpmjgcdaaDoor.PureNumbers
