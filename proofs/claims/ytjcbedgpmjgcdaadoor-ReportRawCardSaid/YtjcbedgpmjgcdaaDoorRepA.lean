/- Plain laws of report: a number's, an Itv's and an Alarm's words are the reference's. -/
import Derived.Test.YtjcbedgpmjgcdaaDoorGrD
import Derived.Test.YtjcbedgpmjgcdaaDoorAbsU
import Derived.Lib.ItoaLen
namespace Go.Proofs.YtjcbedgpmjgcdaaDoor.Abs
open Go Go.RowKit
set_option linter.unusedVariables false
set_option linter.unusedSimpArgs false
theorem quo10 (u : Nat) (h : u ≤ 18446744073709551615) : quo .u64 (u : Int) 10 = some ((u / 10 : Nat) : Int) := by
  unfold quo
  rw [if_neg (by omega)]
  have e : (u : Int).tdiv 10 = ((u / 10 : Nat) : Int) := by rw [Int.tdiv_eq_ediv_of_nonneg (by omega)]; simp
  rw [e, w64u (by omega) (by omega)]
theorem rem10 (u : Nat) : rem (u : Int) 10 = some ((u % 10 : Nat) : Int) := by
  unfold rem
  rw [if_neg (by omega)]
  have e : (u : Int).tmod 10 = ((u % 10 : Nat) : Int) := by rw [Int.tmod_eq_emod_of_nonneg (by omega)]; simp
  rw [e]
theorem digit (u : Nat) : strOfNums [IntKind.u8.wrap (IntKind.u64.wrap (48 + ((u % 10 : Nat) : Int)))] = bA [UInt8.ofNat (48 + u % 10)] := by
  rw [w64u (by omega) (by omega), w8u (by omega) (by omega)]
  show ByteArray.mk [UInt8.ofNat ((48 + ((u % 10 : Nat) : Int))).toNat].toArray = _
  rw [show ((48 + ((u % 10 : Nat) : Int))).toNat = 48 + u % 10 by omega]
  rfl
theorem ne_empty (c : UInt8) (s : List UInt8) : ((bA (c :: s)).toList == (ByteArray.mk #[]).toList) = false := by
  have e1 : ∀ l, (bA l).toList = l := fun l => by
    rw [ByteArray.toList_eq]
    rfl
  have e2 : (ByteArray.mk #[]).toList = [] := e1 []
  rw [e1, e2]; rfl
theorem body0 {c : UInt8} {s : List UInt8} : r17_digits_l1 (0, bA (c :: s)) = some (.inr (.inr (bA (c :: s)))) := by
  unfold r17_digits_l1
  show ((if decide ((0 : Int) > 0) = true then some true else some ((bA (c :: s)).toList == (ByteArray.mk #[]).toList)) >>= _) = _
  rw [if_neg (by decide), ne_empty, sb]
  rfl
theorem body1 {u : Nat} {s : List UInt8} (hu : u ≤ 18446744073709551615) (hs : s.length ≤ 1000) (h : 0 < u ∨ s = []) : r17_digits_l1 ((u : Int), bA s) = some (.inl (((u / 10 : Nat) : Int), bA (UInt8.ofNat (48 + u % 10) :: s))) := by
  have hc : (if decide ((u : Int) > 0) = true then some true else some ((bA s).toList == (ByteArray.mk #[]).toList)) = some true := by
    rcases h with h | rfl
    · rw [if_pos (by simpa using h)]
    · split
      · rfl
      · exact congrArg some (eqT _)
  unfold r17_digits_l1
  simp only [hc, sb, if_true, rem10, quo10 u hu, digit]
  rw [scat_bA (by simp; omega)]
  rfl
theorem digits_it : ∀ (k u : Nat) (s : List UInt8), u < 10 ^ k → u ≤ 18446744073709551615 → s.length + k ≤ 1000 → (0 < u ∨ s = []) → iter r17_digits_l1 ((u : Int), bA s) = some (.inr (bA (Lib.decDigits u ++ s)))
  | 0, u, s, h0, hu, hl, h => by
    have : u = 0 := by simpa using h0
    subst this
    rcases h with h | rfl
    · omega
    · rw [iter_eq, body1 (u := 0) (by omega) (by simp) (.inr rfl)]
      show iter r17_digits_l1 (0, _) = _
      rw [iter_eq, body0]
      rw [Lib.decDigits, dif_pos (by omega)]
      rfl
  | k + 1, u, s, h0, hu, hl, h => by
    rw [iter_eq, body1 hu (by omega) h]
    show iter r17_digits_l1 (((u / 10 : Nat) : Int), _) = _
    by_cases hb : u < 10
    · rw [show u / 10 = 0 by omega]
      show iter r17_digits_l1 (0, _) = _
      rw [iter_eq, body0, Lib.decDigits, dif_pos hb, show u % 10 = u by omega]
      rfl
    · rw [digits_it k (u / 10) _ (by rw [Nat.pow_succ] at h0; omega) (by omega) (by simp; omega) (.inl (by omega))]
      rw [Lib.decDigits.eq_def u, dif_neg hb]
      simp
theorem digits_eq (u : Nat) (h : u ≤ 18446744073709551615) : r17_digits (u : Int) = some (bA (Lib.decDigits u)) := by
  unfold r17_digits
  have := digits_it 20 u [] (by omega) h (by simp) (.inr rfl)
  rw [List.append_nil] at this
  rw [show (ByteArray.mk #[]) = bA [] from rfl, this]
  rfl
structure I64 (n : Int) : Prop where
  lo : -9223372036854775808 ≤ n
  hi : n ≤ 9223372036854775807
theorem dec_len (u : Nat) (h : u < 18446744073709551616) : (Lib.decDigits u).length ≤ 20 := by
  rw [Lib.decDigits_length]; exact Lib.nDigits_le20 u h
theorem number_eq {n : Int} (h : I64 n) : r17_Number n = some (bA (Lib.itoa n)) := by
  have h0 := h.lo; have h1 := h.hi
  unfold r17_Number Lib.itoa
  by_cases hn : n < 0
  · rw [if_pos (by simpa using hn), if_pos hn]
    have e : IntKind.u64.wrap (IntKind.i64.wrap (0 - n)) = ((n.natAbs : Nat) : Int) := by
      rw [IntKind.wrap_i64, IntKind.wrap_u64]; omega
    rw [e, digits_eq _ (by omega)]
    show (scat (bA [45]) (bA _) >>= _) = _
    rw [scat_bA (by have := dec_len n.natAbs (by omega); simp; omega)]
    rfl
  · rw [if_neg (by simpa using hn), if_neg hn]
    have e : IntKind.u64.wrap n = ((n.toNat : Nat) : Int) := by rw [IntKind.wrap_u64]; omega
    rw [e, digits_eq _ (by omega)]
    rfl
theorem itoa_eq {n : Int} (h : I64 n) : itoa n = some (bA (Lib.itoa n)) := by
  unfold itoa; rw [if_pos ⟨h.lo, h.hi⟩]; rfl
theorem itoa_len {n : Int} (h : I64 n) : (Lib.itoa n).length ≤ 21 := Lib.itoa_length_le n h.lo h.hi
def itvW (lo hi : Int) : List UInt8 :=
  if lo > hi then [110, 111, 110, 101] else if lo = hi then Lib.itoa lo else if lo = -2147483648 ∧ hi = 2147483647 then [97, 110, 121] else (Lib.itoa lo ++ [32, 116, 111, 32]) ++ Lib.itoa hi
theorem itvW_len {lo hi : Int} (h0 : I64 lo) (h1 : I64 hi) : (itvW lo hi).length ≤ 46 := by
  have a := itoa_len h0
  have b := itoa_len h1
  unfold itvW
  split
  · simp
  · split
    · omega
    · split
      · simp
      · simp; omega
theorem report_itv {a : itv_Itv} (h0 : I64 a.Lo) (h1 : I64 a.Hi) : report_Itv a = some (bA (itvW a.Lo a.Hi)) := by
  have c0 := itoa_len h0
  have c1 := itoa_len h1
  unfold report_Itv itv_Empty itv_All itvW
  simp only [sb]
  by_cases e1 : a.Lo > a.Hi
  · rw [if_pos (by simpa using e1), if_pos e1]; rfl
  · rw [if_neg (by simpa using e1), if_neg e1]
    by_cases e2 : a.Lo = a.Hi
    · rw [if_pos (by simpa using e2), if_pos e2, itoa_eq h0]; rfl
    · rw [if_neg (by simpa using e2), if_neg e2]
      by_cases e3 : a.Lo = -2147483648 ∧ a.Hi = 2147483647
      · rw [if_pos (by simp [e3.1, e3.2]), if_pos e3]; rfl
      · rw [if_neg (by simpa using e3), if_neg e3, itoa_eq h0, itoa_eq h1]
        show (scat (bA _) (bA [32, 116, 111, 32]) >>= _) = _
        rw [scat_bA (by simp; omega)]
        show (scat (bA _) (bA _) >>= _) = _
        rw [scat_bA (by simp; omega)]
        rfl
theorem ref_itv {a : r08_Itv} (h0 : I64 a.Lo) (h1 : I64 a.Hi) : r17_Itv a = some (bA (itvW a.Lo a.Hi)) := by
  have c0 := itoa_len h0
  have c1 := itoa_len h1
  unfold r17_Itv itvW
  by_cases e1 : a.Lo > a.Hi
  · rw [if_pos (by simpa using e1), if_pos e1]; rfl
  · rw [if_neg (by simpa using e1), if_neg e1]
    by_cases e2 : a.Lo = a.Hi
    · rw [if_pos (by simpa using e2), if_pos e2, number_eq h0]; rfl
    · rw [if_neg (by simpa using e2), if_neg e2]
      by_cases e3 : a.Lo = -2147483648 ∧ a.Hi = 2147483647
      · rw [if_pos (by simp [e3.1]), if_pos e3]; simp [e3.2]; rfl
      · have : ((if (a.Lo == -2147483648) = true then some (a.Hi == 2147483647) else some false) : Option Bool) = some false := by
          split
          · rename_i e; have e : a.Lo = -2147483648 := by simpa using e
            simp only [Option.some.injEq, beq_eq_false_iff_ne]; exact fun q => e3 ⟨e, q⟩
          · rfl
        rw [this, if_neg e3, number_eq h0, number_eq h1]
        show (scat (bA _) (bA [32, 116, 111, 32]) >>= _) = _
        rw [scat_bA (by simp; omega)]
        show (scat (bA _) (bA _) >>= _) = _
        rw [scat_bA (by simp; omega)]
        rfl
def kindW (k : Int) : List UInt8 :=
  if k = 1 then [102, 97, 105, 108, 101, 100, 32, 97, 115, 115, 101, 114, 116, 105, 111, 110] else if k = 2 then [111, 118, 101, 114, 102, 108, 111, 119] else if k = 3 then [100, 105, 118, 105, 115, 105, 111, 110, 32, 98, 121, 32, 122, 101, 114, 111] else
  if k = 4 then [102, 117, 108, 108, 32, 99, 104, 97, 110, 110, 101, 108] else if k = 5 then [119, 114, 111, 110, 103, 32, 116, 97, 103] else if k = 6 then [98, 114, 111, 107, 101, 110, 32, 114, 117, 108, 101] else [101, 114, 114, 111, 114]
theorem kindW_len (k : Int) : (kindW k).length ≤ 16 := by
  unfold kindW; repeat' split
  all_goals decide
def alarmW (p e k : Int) : List UInt8 := (((kindW k ++ [32, 97, 116, 32, 112, 114, 111, 99, 101, 115, 115, 32]) ++ Lib.itoa p) ++ [32, 101, 100, 103, 101, 32]) ++ Lib.itoa e
theorem alarmW_len {p e : Int} (k : Int) (h0 : I64 p) (h1 : I64 e) : (alarmW p e k).length ≤ 76 := by
  have a := itoa_len h0
  have b := itoa_len h1
  have c := kindW_len k
  unfold alarmW; simp; omega
theorem bassoc {α β γ : Type} (x : Option α) (f : α → Option β) (g : β → Option γ) : (x >>= fun a => f a >>= g) = ((x >>= f) >>= g) := by cases x <;> rfl
theorem k_cases (k : Int) : (k = 0 ∨ k = 1 ∨ k = 2 ∨ k = 3 ∨ k = 4 ∨ k = 5 ∨ k = 6) ∨ (k < 0 ∨ 7 ≤ k) := by omega
theorem tail_eq {x : ByteArray} {l : List UInt8} {p e : Int} (f g : Int → Option ByteArray) (hx : x = bA l) (hl : l.length ≤ 16) (hp : I64 p) (he : I64 e) (hf : f p = some (bA (Lib.itoa p))) (hg : g e = some (bA (Lib.itoa e))) :
    (scat x (ByteArray.mk #[32, 97, 116, 32, 112, 114, 111, 99, 101, 115, 115, 32]) >>= fun v2 => f p >>= fun v4 => scat v2 v4 >>= fun v5 => scat v5 (ByteArray.mk #[32, 101, 100, 103, 101, 32]) >>= fun v6 => g e >>= fun v8 => scat v6 v8 >>= fun v9 => some v9) =
    some (bA ((((l ++ [32, 97, 116, 32, 112, 114, 111, 99, 101, 115, 115, 32]) ++ Lib.itoa p) ++ [32, 101, 100, 103, 101, 32]) ++ Lib.itoa e)) := by
  have a := itoa_len hp
  have b := itoa_len he
  subst hx
  show (scat (bA l) (bA [32, 97, 116, 32, 112, 114, 111, 99, 101, 115, 115, 32]) >>= _) = _
  rw [scat_bA (by simp; omega), sb, hf, sb, scat_bA (by simp; omega), sb]
  show (scat (bA _) (bA [32, 101, 100, 103, 101, 32]) >>= _) = _
  rw [scat_bA (by simp; omega), sb, hg, sb, scat_bA (by simp; omega)]
  rfl
theorem report_alarm {a : fix_Alarm} (h0 : I64 a.Proc) (h1 : I64 a.Edge) : report_Alarm a = some (bA (alarmW a.Proc a.Edge a.Kind)) := by
  have go : ∀ x, (kindW a.Kind = x) → ((((if (decide (a.Kind < 0)) then (some true) else (some (decide (a.Kind ≥ 7))) : Option Bool) >>= fun j2 => if j2 then (some 0) else (some a.Kind)) : Option Int) >>= fun j1 =>
      idx [(ByteArray.mk #[101, 114, 114, 111, 114]), (ByteArray.mk #[102, 97, 105, 108, 101, 100, 32, 97, 115, 115, 101, 114, 116, 105, 111, 110]), (ByteArray.mk #[111, 118, 101, 114, 102, 108, 111, 119]), (ByteArray.mk #[100, 105, 118, 105, 115, 105, 111, 110, 32, 98, 121, 32, 122, 101, 114, 111]), (ByteArray.mk #[102, 117, 108, 108, 32, 99, 104, 97, 110, 110, 101, 108]), (ByteArray.mk #[119, 114, 111, 110, 103, 32, 116, 97, 103]), (ByteArray.mk #[98, 114, 111, 107, 101, 110, 32, 114, 117, 108, 101])] j1) = some (bA x) := by
    intro x hx
    subst hx
    rcases k_cases a.Kind with (h | h | h | h | h | h | h) | h
    · rw [h]; rfl
    · rw [h]; rfl
    · rw [h]; rfl
    · rw [h]; rfl
    · rw [h]; rfl
    · rw [h]; rfl
    · rw [h]; rfl
    · have e : kindW a.Kind = [101, 114, 114, 111, 114] := by
        unfold kindW
        rw [if_neg (by omega), if_neg (by omega), if_neg (by omega), if_neg (by omega), if_neg (by omega), if_neg (by omega)]
      rw [e]
      have : ((if decide (a.Kind < 0) = true then some true else some (decide (a.Kind ≥ 7))) : Option Bool) = some true := by
        by_cases hn : a.Kind < 0
        · rw [if_pos (by simpa using hn)]
        · rw [if_neg (by simpa using hn)]
          simp; omega
      rw [this]; rfl
  unfold report_Alarm
  rw [bassoc, go _ rfl, sb]
  exact tail_eq itoa itoa rfl (kindW_len _) h0 h1 (itoa_eq h0) (itoa_eq h1)
theorem ref_alarm {p e k : Int} (h0 : I64 p) (h1 : I64 e) (hk : I64 k) : r17_Alarm p e k = some (bA (alarmW p e k)) := by
  have go : (((if (decide (k ≥ 1)) then (some (decide (k ≤ 6))) else (some false) : Option Bool) >>= fun j2 =>
      if j2 then (idx [(ByteArray.mk #[102, 97, 105, 108, 101, 100, 32, 97, 115, 115, 101, 114, 116, 105, 111, 110]), (ByteArray.mk #[111, 118, 101, 114, 102, 108, 111, 119]), (ByteArray.mk #[100, 105, 118, 105, 115, 105, 111, 110, 32, 98, 121, 32, 122, 101, 114, 111]), (ByteArray.mk #[102, 117, 108, 108, 32, 99, 104, 97, 110, 110, 101, 108]), (ByteArray.mk #[119, 114, 111, 110, 103, 32, 116, 97, 103]), (ByteArray.mk #[98, 114, 111, 107, 101, 110, 32, 114, 117, 108, 101])] (IntKind.i64.wrap (k - 1)) >>= fun v1 => some v1)
      else (some (ByteArray.mk #[101, 114, 114, 111, 114]))) : Option ByteArray) = some (bA (kindW k)) := by
    rcases k_cases k with (h | h | h | h | h | h | h) | h
    · rw [h]; rfl
    · rw [h]; rfl
    · rw [h]; rfl
    · rw [h]; rfl
    · rw [h]; rfl
    · rw [h]; rfl
    · rw [h]; rfl
    · have e : kindW k = [101, 114, 114, 111, 114] := by
        unfold kindW
        rw [if_neg (by omega), if_neg (by omega), if_neg (by omega), if_neg (by omega), if_neg (by omega), if_neg (by omega)]
      rw [e]
      have : ((if decide (k ≥ 1) = true then some (decide (k ≤ 6)) else some false) : Option Bool) = some false := by
        by_cases hn : k ≥ 1
        · rw [if_pos (by simpa using hn)]; simp; omega
        · rw [if_neg (by simpa using hn)]
      rw [this]; rfl
  unfold r17_Alarm
  rw [go, sb]
  exact tail_eq r17_Number r17_Number rfl (kindW_len _) h0 h1 (number_eq h0) (number_eq h1)
end Go.Proofs.YtjcbedgpmjgcdaaDoor.Abs
