/- The reference's Lex, as it is printed, comes to what lexing is, of all texts of at most 4,194,304 bytes; its name is the program's. -/
import Derived.Test.YtaaihamelknhdaaGreatDoorPlA
namespace Go.Proofs.YtaaihamelknhdaaGreatDoor.Abs.Wri
open Go Go.RowKit
set_option linter.unusedVariables false
set_option linter.unusedSimpArgs false
/-! ### Loops over a list -/
theorem wsucc {i : Nat} (h : i < 4611686018427387904) : IntKind.i64.wrap ((i : Int) + 1) = ((i + 1 : Nat) : Int) := by rw [w64 (by omega) (by omega)]; omega
/-- A loop that ends at the first that isn't. -/
theorem allloop' {β O : Type} {body : Int → Option (Sum Int (Sum O Unit))} {n H : Nat} (l : List β) (p : β → Bool) (r : O) (hlen : l.length ≤ 4611686018427387904)
    (hs : ∀ (i : Nat) (x : β), l[i]? = some x → idx l (i : Int) = some x → x ∈ l → i < l.length → IntKind.i64.wrap ((i : Int) + 1) = ((i + 1 : Nat) : Int) → Sn n H (body (i : Int)) (if p x then .inl ((i + 1 : Nat) : Int) else .inr (.inl r)))
    (he : body (l.length : Int) = some (.inr (.inr ()))) : ∀ (m : List β) (i : Nat), l.drop i = m → i ≤ l.length → Sn n H (iter body (i : Int)) (if m.all p then .inr () else .inl r) := by
  intro m
  induction m with
  | nil =>
    intro i hd hi
    have : i = l.length := by have := List.drop_eq_nil_iff.1 hd; omega
    subst this
    exact .inl (by rw [iter_out he]; rfl)
  | cons x m ih =>
    intro i hd hi
    have hlt : i < l.length := by
      refine Nat.lt_of_not_le fun h => ?_
      rw [List.drop_of_length_le h] at hd; cases hd
    rw [List.drop_eq_getElem_cons hlt] at hd
    injection hd with h1 h2
    have h3 := hs i x (by rw [← h1]; exact List.getElem?_eq_getElem hlt) (by rw [idx_ok hlt, h1]) (by rw [← h1]; exact List.getElem_mem hlt) hlt (wsucc (by omega))
    rw [iter_eq]
    refine Sn.bind (f := _) h3 ?_
    cases hp : p x with
    | true =>
      have h4 := ih (i + 1) h2 hlt
      simp only [List.all_cons, hp, Bool.true_and, if_true]
      exact h4
    | false =>
      simp only [List.all_cons, hp, Bool.false_and, Bool.false_eq_true, if_false]
      exact .inl rfl
theorem allloop {β O : Type} {body : Int → Option (Sum Int (Sum O Unit))} {n H : Nat} (l : List β) (p : β → Bool) (r : O) (hlen : l.length ≤ 4611686018427387904)
    (hs : ∀ (i : Nat) (x : β), l[i]? = some x → idx l (i : Int) = some x → x ∈ l → i < l.length → IntKind.i64.wrap ((i : Int) + 1) = ((i + 1 : Nat) : Int) → Sn n H (body (i : Int)) (if p x then .inl ((i + 1 : Nat) : Int) else .inr (.inl r)))
    (he : body (l.length : Int) = some (.inr (.inr ()))) : Sn n H (iter body 0) (if l.all p then .inr () else .inl r) := allloop' l p r hlen hs he l 0 rfl (by omega)
theorem allloop_f {β O : Type} {body : Int → Option (Sum Int (Sum O Unit))} (l : List β) (p : β → Bool) (r : O) (hlen : l.length ≤ 4611686018427387904)
    (hs : ∀ (i : Nat) (x : β), l[i]? = some x → idx l (i : Int) = some x → x ∈ l → i < l.length → IntKind.i64.wrap ((i : Int) + 1) = ((i + 1 : Nat) : Int) → body (i : Int) = some (if p x then .inl ((i + 1 : Nat) : Int) else .inr (.inl r)))
    (he : body (l.length : Int) = some (.inr (.inr ()))) : iter body 0 = some (if l.all p then .inr () else .inl r) := by
  rcases allloop (n := 0) (H := 0) l p r hlen (fun i x h1 h2 h3 h4 h5 => .inl (hs i x h1 h2 h3 h4 h5)) he with h | ⟨_, h⟩
  · exact h
  · omega
/-! ### Letters, digits, reserved words -/
theorem letter_r (b : UInt8) : r01_letter (b.toNat : Int) = some (isL b) := by
  unfold r01_letter isL
  by_cases h : 97 ≤ b.toNat
  · rw [if_pos (by simp; omega)]; simp only [h, decide_true, Bool.true_and]; exact congrArg some (decide_eq_decide.mpr (by omega))
  · rw [if_neg (by simp; omega)]; simp only [h, decide_false, Bool.false_and]
theorem digit_r (b : UInt8) : r01_digit (b.toNat : Int) = some (isD b) := by
  unfold r01_digit isD
  by_cases h : 48 ≤ b.toNat
  · rw [if_pos (by simp; omega)]; simp only [h, decide_true, Bool.true_and]; exact congrArg some (decide_eq_decide.mpr (by omega))
  · rw [if_neg (by simp; omega)]; simp only [h, decide_false, Bool.false_and]
def resvB : List ByteArray := [(ByteArray.mk #[99, 104, 97, 110]), (ByteArray.mk #[98, 108, 111, 99, 107]), (ByteArray.mk #[100, 114, 111, 112]), (ByteArray.mk #[108, 111, 115, 115, 121]), (ByteArray.mk #[102, 114, 111, 109]), (ByteArray.mk #[116, 111]), (ByteArray.mk #[114, 117, 108, 101]), (ByteArray.mk #[112, 114, 111, 99]), (ByteArray.mk #[118, 97, 114]), (ByteArray.mk #[105, 102]), (ByteArray.mk #[101, 108, 115, 101]), (ByteArray.mk #[119, 104, 105, 108, 101]), (ByteArray.mk #[115, 101, 110, 100]), (ByteArray.mk #[114, 101, 99, 118]), (ByteArray.mk #[97, 115, 115, 101, 114, 116]), (ByteArray.mk #[105, 110, 112, 117, 116])]
theorem resvB_map : resvB.map (·.data.toList) = resv := rfl
theorem reserved_r (s : ByteArray) : r01_Reserved s = some (decide (s.data.toList ∈ resv)) := by
  unfold r01_Reserved
  show (iter (r01_Reserved_l1 s resvB) 0).bind _ = _
  rw [allloop_f (body := r01_Reserved_l1 s resvB) resvB (fun x => !(x.toList == s.toList)) true (by decide) (fun i x h0 h1 h2 h3 h4 => by
      unfold r01_Reserved_l1
      rw [if_pos (by simpa using h3), h1]
      simp only [Option.bind_eq_bind, Option.bind_some, h4]
      cases (x.toList == s.toList) <;> rfl) (by unfold r01_Reserved_l1; rw [if_neg (by simp)])]
  simp only [Option.bind_some]
  have e : resvB.all (fun x => !(x.toList == s.toList)) = !decide (s.data.toList ∈ resv) := by
    rw [Bool.eq_iff_iff, List.all_eq_true, ← resvB_map]
    simp only [Bool.not_eq_true', beq_eq_false_iff_ne, decide_eq_false_iff_not, List.mem_map, not_exists, not_and, Go.ByteArray.toList_eq]
  rw [e]
  cases decide (s.data.toList ∈ resv) <;> rfl
/-! ### sign -/
def twoB : List ByteArray := [(ByteArray.mk #[61, 61]), (ByteArray.mk #[33, 61]), (ByteArray.mk #[60, 61]), (ByteArray.mk #[62, 61])]
def oneB : ByteArray := ByteArray.mk #[123, 125, 40, 41, 59, 44, 46, 61, 60, 62, 43, 45, 42, 47, 37]
theorem sign_r (s : ByteArray) (hs : s.size ≤ 4194304) (p : Nat) (hp : p < s.size) : r01_sign s (p : Int) = some ((signL (s.data.toList.drop p) : Nat) : Int) := by
  have hl : p < s.data.toList.length := by rw [size_list]; omega
  have e := List.drop_eq_getElem_cons hl
  have hb := bidx_get s p hl
  generalize s.data.toList[p] = a at e hb
  have hw : IntKind.i64.wrap ((p : Int) + 2) = ((p + 2 : Nat) : Int) := by rw [w64 (by omega) (by omega)]; omega
  have h1 := allloop_f (body := r01_sign_l1 s (p : Int)) twoB (fun x => !(decide (p + 2 ≤ s.size) && ((s.extract p (p + 2)).toList == x.toList))) 2 (by decide) (fun i x h0 h1 h2 h3 h4 => by
      unfold r01_sign_l1
      have h3' : (i : Int) < 4 := by have : i < 4 := h3; omega
      rw [if_pos (by simpa using h3'), hw, h4]
      have h1' : idx [(ByteArray.mk #[61, 61]), (ByteArray.mk #[33, 61]), (ByteArray.mk #[60, 61]), (ByteArray.mk #[62, 61])] (i : Int) = some x := h1
      by_cases h2 : p + 2 ≤ s.size
      · rw [if_pos (by simp only [decide_eq_true_eq]; omega), ssub_ok (by omega) h2]
        simp only [Option.bind_eq_bind, Option.bind_some, h1', h2, decide_true, Bool.true_and]
        cases ((s.extract p (p + 2)).toList == x.toList) <;> rfl
      · rw [if_neg (by simp only [decide_eq_true_eq]; omega)]
        simp only [Option.bind_eq_bind, Option.bind_some, h2, decide_false, Bool.false_and]
        rfl) (by unfold r01_sign_l1; rfl)
  have h2 := allloop_f (body := r01_sign_l3 s (p : Int)) ones (fun x => !(decide (x = a))) 1 (by decide) (fun i x h0 h1 h2 h3 h4 => by
      unfold r01_sign_l3
      have h3' : i < 15 := h3
      have hsz : (ByteArray.mk #[123, 125, 40, 41, 59, 44, 46, 61, 60, 62, 43, 45, 42, 47, 37]).size = 15 := rfl
      have hbi : bidx (ByteArray.mk #[123, 125, 40, 41, 59, 44, 46, 61, 60, 62, 43, 45, 42, 47, 37]) (i : Int) = some (x.toNat : Int) := by
        have := bidx_get oneB i h3
        have hx : oneB.data.toList[i]'h3 = x := by
          have : ones[i]? = some (oneB.data.toList[i]'h3) := List.getElem?_eq_getElem (l := ones) h3
          rw [h0] at this; injection this with this; exact this.symm
        rw [hx] at this; exact this
      rw [hsz, if_pos (by simp only [decide_eq_true_eq]; omega), hbi]
      simp only [Option.bind_eq_bind, Option.bind_some, hb, h4]
      by_cases hx : x = a
      · subst hx; simp
      · have : ¬ ((x.toNat : Int) = (a.toNat : Int)) := fun h => hx (UInt8.toNat_inj.mp (by omega))
        have h2 : ((x.toNat : Int) == (a.toNat : Int)) = false := by simpa using this
        rw [h2]
        simp [hx]) (by unfold r01_sign_l3; rfl)
  unfold r01_sign
  rw [h1]
  have e1 : twoB.all (fun x => !(decide (p + 2 ≤ s.size) && ((s.extract p (p + 2)).toList == x.toList))) = !decide ((s.data.toList.drop p)[1]? = some 61 ∧ (s.data.toList.drop p).head? ∈ twos.map some) := by
    rw [Bool.eq_iff_iff]
    have hlen : (s.data.toList.drop p).length = s.size - p := by rw [List.length_drop, size_list]
    have htd : (s.extract p (p + 2)).data.toList = (s.data.toList.drop p).take 2 := by rw [ext_list, List.drop_take]; congr 1; omega
    simp only [Go.ByteArray.toList_eq, htd, e] at hlen ⊢
    cases hr : List.drop (p + 1) s.data.toList with
    | nil =>
      rw [hr] at hlen
      simp only [List.length_cons, List.length_nil] at hlen
      have : ¬ (p + 2 ≤ s.size) := by omega
      simp [this]
    | cons c r =>
      rw [hr] at hlen
      simp only [List.length_cons] at hlen
      have : p + 2 ≤ s.size := by omega
      simp only [this, decide_true, Bool.true_and, twoB, List.all_cons, List.all_nil, Bool.and_true, List.take_succ_cons, List.take_zero, List.getElem?_cons_succ, List.getElem?_cons_zero, List.head?_cons, twos, List.map_cons, List.map_nil, List.mem_cons, List.not_mem_nil, or_false, Option.some.injEq, Bool.and_eq_true, Bool.not_eq_true', beq_eq_false_iff_ne, decide_eq_false_iff_not, ne_eq, List.cons.injEq, and_true]
      constructor
      · rintro ⟨h1, h2, h3, h4⟩ ⟨h5, h6⟩
        subst h5
        simp only [and_true] at h1 h2 h3 h4
        rcases h6 with h | h | h | h
        · exact h1 h
        · exact h2 h
        · exact h3 h
        · exact h4 h
      · intro h
        refine ⟨fun g => h ⟨g.2, .inl g.1⟩, fun g => h ⟨g.2, .inr (.inl g.1)⟩, fun g => h ⟨g.2, .inr (.inr (.inl g.1))⟩, fun g => h ⟨g.2, .inr (.inr (.inr g.1))⟩⟩
  have e2 : ones.all (fun x => !(decide (x = a))) = !decide ((s.data.toList.drop p).head? ∈ ones.map some) := by
    rw [Bool.eq_iff_iff, e]
    simp only [List.all_eq_true, List.head?_cons, List.mem_map, Option.some.injEq, exists_eq_right, Bool.not_eq_true', decide_eq_false_iff_not]
    constructor
    · intro h h2; exact h a h2 rfl
    · rintro h x hx rfl; exact h hx
  rw [e1]
  unfold signL
  by_cases g : (s.data.toList.drop p)[1]? = some 61 ∧ (s.data.toList.drop p).head? ∈ twos.map some
  · rw [if_pos g]; simp only [g, and_self, decide_true]; rfl
  · rw [if_neg g]
    simp only [g, decide_false, Bool.not_false, if_true, Option.bind_eq_bind, Option.bind_some, Sum.elim_inr]
    rw [h2, e2]
    by_cases g2 : (s.data.toList.drop p).head? ∈ ones.map some
    · rw [if_pos g2]; simp only [g2, decide_true]; rfl
    · rw [if_neg g2]; simp only [g2, decide_false]; rfl
/-! ### Lex -/
def tokR (t : Tok) : r01_Token := ⟨t.kind, ⟨t.text.toArray⟩, (t.num : Int), (t.at_ : Int)⟩
def finR (size : Nat) (z : List Tok × Option (Nat × Int)) : List r01_Token × Int × Int :=
  ((told size z).1.map tokR, (told size z).2.1, (told size z).2.2)
theorem run_r (s : ByteArray) (hs : s.size ≤ 4194304) (b : UInt8) (hA : isA b = true) : ∀ (d i : Nat), s.size - i = d → i ≤ s.size →
    iter (r01_Lex_l3 s (b.toNat : Int)) (i : Int) = some (.inr ((i + runL (s.data.toList.drop i) : Nat) : Int)) := by
  intro d
  induction d with
  | zero =>
    intro i hd hi
    refine iter_out ?_
    unfold r01_Lex_l3
    rw [if_neg (by simp; omega), List.drop_of_length_le (by rw [size_list]; omega)]
    simp [runL]
  | succ d ih =>
    intro i hd hi
    have hl : i < s.data.toList.length := by rw [size_list]; omega
    have e := List.drop_eq_getElem_cons hl
    have hb := bidx_get s i hl
    generalize s.data.toList[i] = c at e hb
    have hw := wsucc (i := i) (by omega)
    have IH := ih (i + 1) (by omega) (by omega)
    have hlt : (decide ((i : Int) < (s.size : Int))) = true := by simp; omega
    have hbody : r01_Lex_l3 s (b.toNat : Int) (i : Int) = some (if isA c then .inl ((i + 1 : Nat) : Int) else .inr (.inr (i : Int))) := by
      unfold r01_Lex_l3
      rw [if_pos hlt]
      simp only [hb, Option.bind_eq_bind, Option.bind_some, letter_r, digit_r, hw]
      unfold isA at hA ⊢
      cases hL : isL b
      · rw [hL] at hA
        simp only [Bool.false_or] at hA
        rw [hA]
        cases isL c <;> cases isD c <;> rfl
      · cases isL c <;> cases isD c <;> rfl
    rw [e, runL_cons]
    by_cases hc : isA c = true
    · rw [if_pos hc]
      rw [if_pos hc] at hbody
      rw [iter_in hbody, IH]
      congr 2; omega
    · rw [if_neg hc]
      rw [if_neg hc] at hbody
      rw [iter_out hbody]; rfl
theorem run_r0 (s : ByteArray) (b : UInt8) (hA : isA b = false) (i : Nat) (hi : i < s.size) : iter (r01_Lex_l3 s (b.toNat : Int)) (i : Int) = some (.inr (i : Int)) := by
  refine iter_out ?_
  unfold r01_Lex_l3
  unfold isA at hA
  rw [Bool.or_eq_false_iff] at hA
  rw [if_pos (by simp; omega)]
  simp only [Option.bind_eq_bind, Option.bind_some, letter_r, digit_r, hA.1, hA.2]
  rfl
theorem dval_app (t : Bs) (b : UInt8) : dval (t ++ [b]) = 10 * dval t + (b.toNat - 48) := by simp [dval, List.foldl_append]
theorem num_r (v : ByteArray) (x1 : Int × List r01_Token) (hv : v.size ≤ 10) : iter (r01_Lex_l7 v x1) (0, 0) = some (if v.data.toList.all isD then .inr ((dval v.data.toList : Nat) : Int) else .inl ([], x1.1, 3)) := by
  have step : ∀ (d i : Nat), v.size - i = d → i ≤ v.size → (v.data.toList.take i).all isD = true → iter (r01_Lex_l7 v x1) ((i : Int), ((dval (v.data.toList.take i) : Nat) : Int)) = some (if v.data.toList.all isD then .inr ((dval v.data.toList : Nat) : Int) else .inl ([], x1.1, 3)) := by
    intro d
    induction d with
    | zero =>
      intro i hd hi ha
      have : i = v.size := by omega
      subst this
      rw [List.take_of_length_le (by rw [size_list]; omega)] at ha ⊢
      rw [if_pos ha]
      refine iter_out ?_
      unfold r01_Lex_l7
      rw [if_neg (by simp)]
    | succ d ih =>
      intro i hd hi ha
      have hl : i < v.data.toList.length := by rw [size_list]; omega
      have hb := bidx_get v i hl
      have htk : v.data.toList.take (i + 1) = v.data.toList.take i ++ [v.data.toList[i]] := by
        rw [List.take_add_one, List.getElem?_eq_getElem hl]; rfl
      have hmem : v.data.toList[i] ∈ v.data.toList := List.getElem_mem hl
      generalize v.data.toList[i] = c at hb htk hmem
      have hlt := foldl_lt (v.data.toList.take i) (fun b hb => List.all_eq_true.1 ha b hb) 0
      have hlen : (v.data.toList.take i).length ≤ 9 := by rw [List.length_take, size_list]; omega
      have hpow : (10 : Nat) ^ (v.data.toList.take i).length ≤ 1000000000 := by
        have := Nat.pow_le_pow_right (n := 10) (by omega) hlen
        have : (10 : Nat) ^ 9 = 1000000000 := by decide
        omega
      have hdv : dval (v.data.toList.take i) < 1000000000 := by rw [dval_eq]; omega
      have hbody : r01_Lex_l7 v x1 ((i : Int), ((dval (v.data.toList.take i) : Nat) : Int)) = some (if isD c then .inl (((i + 1 : Nat) : Int), ((dval (v.data.toList.take (i + 1)) : Nat) : Int)) else .inr (.inl ([], x1.1, 3))) := by
        unfold r01_Lex_l7
        rw [if_pos (by simp; omega)]
        simp only [hb, Option.bind_eq_bind, Option.bind_some, digit_r]
        cases hD : isD c
        · rfl
        · simp only [Bool.not_true, Bool.false_eq_true, if_false, if_true]
          simp only [isD, Bool.and_eq_true, decide_eq_true_eq] at hD
          rw [wsucc (i := i) (by omega), w8u (n := (c.toNat : Int) - 48) (by omega) (by omega), w64 (n := (c.toNat : Int) - 48) (by omega) (by omega), w64 (n := 10 * ((dval (v.data.toList.take i) : Nat) : Int)) (by omega) (by omega), w64 (by omega) (by omega), htk, dval_app]
          congr 4
          omega
      by_cases hD : isD c = true
      · rw [if_pos hD] at hbody
        rw [iter_in hbody]
        exact ih (i + 1) (by omega) (by omega) (by rw [htk, List.all_append, ha]; simp [hD])
      · rw [if_neg hD] at hbody
        rw [iter_out hbody, if_neg]
        intro h
        exact hD (List.all_eq_true.1 h c hmem)
  have := step v.size 0 (by omega) (by omega) (by simp)
  simpa [dval] using this
theorem lex_body_r (s : ByteArray) (hs : s.size ≤ 4194304) (i : Nat) (b : UInt8) (r : Bs) (acc : List r01_Token) (e : s.data.toList.drop i = b :: r) (hi : i < s.size) (hB : isB b = false) (ha : acc.length ≤ i) :
    r01_Lex_l1 s ((i : Int), acc) = match word1 (b :: r) with
      | .error c => some (.inr (.inl ([], (i : Int), c)))
      | .ok w => some (.inl (((i + w.len : Nat) : Int), acc ++ [tokR ⟨w.kind, (b :: r).take w.len, w.num, i⟩])) := by
  have hl : i < s.data.toList.length := by rw [size_list]; omega
  have hb : bidx s (i : Int) = some (b.toNat : Int) := by
    rw [bidx_get s i hl]
    have := List.drop_eq_getElem_cons hl
    rw [e] at this; injection this with h1 h2; rw [← h1]
  have hlt : (decide ((i : Int) < (s.size : Int))) = true := by simp; omega
  have h32 : ((b.toNat : Int) == 32) = (b == 32) := by
    rw [Bool.eq_iff_iff, beq_iff_eq, beq_iff_eq]
    constructor
    · intro h; exact UInt8.toNat_inj.mp (by have : (32 : UInt8).toNat = 32 := rfl; omega)
    · rintro rfl; rfl
  have h10 : ((b.toNat : Int) == 10) = (b == 10) := by
    rw [Bool.eq_iff_iff, beq_iff_eq, beq_iff_eq]
    constructor
    · intro h; exact UInt8.toNat_inj.mp (by have : (10 : UInt8).toNat = 10 := rfl; omega)
    · rintro rfl; rfl
  have h48 : ((b.toNat : Int) == 48) = (b == 48) := by
    rw [Bool.eq_iff_iff, beq_iff_eq, beq_iff_eq]
    constructor
    · intro h; exact UInt8.toNat_inj.mp (by have : (48 : UInt8).toNat = 48 := rfl; omega)
    · rintro rfl; rfl
  have hJ : (if (b == 32) = true then some true else some (b == 10)) = some false := by
    unfold isB at hB
    rw [Bool.or_eq_false_iff] at hB
    rw [hB.1, hB.2]; rfl
  have hrl := runL_le (b :: r)
  have hlen : (b :: r).length = s.size - i := by rw [← e, List.length_drop, size_list]
  have cut : ∀ n, n ≤ (b :: r).length → ssub s (i : Int) ((i + n : Nat) : Int) = some (⟨((b :: r).take n).toArray⟩ : ByteArray) := fun n hn => by
    rw [ssub_ok (by omega) (by omega)]
    refine congrArg some (list_ext ?_)
    rw [ext_list, List.drop_take, e]
    simp
  have tsz : ∀ n, n ≤ (b :: r).length → ((⟨((b :: r).take n).toArray⟩ : ByteArray)).size = n := fun n hn => by
    rw [← size_list]; simp only [List.length_take]; omega
  have tok : ∀ (k : Int) (n m : Nat), n ≤ (b :: r).length → app 40 acc [(r01_Token.mk k ⟨((b :: r).take n).toArray⟩ (m : Int) (i : Int))] = some (acc ++ [tokR ⟨k, (b :: r).take n, m, i⟩]) := fun k n m hn => by
    rw [app_ok (by simp; omega)]; rfl
  unfold r01_Lex_l1
  rw [if_pos hlt]
  simp only [hb, Option.bind_eq_bind, Option.bind_some, h32, h10, hJ, Bool.false_eq_true, if_false]
  rw [word1_cons]
  by_cases hA : isA b = true
  · have hrun := run_r s hs b hA (s.size - i) i rfl (by omega)
    rw [e] at hrun
    rw [hrun]
    simp only [Option.bind_some, Sum.elim_inr, letter_r, digit_r, cut _ hrl]
    cases hL : isL b with
    | true =>
      simp only [if_true, reserved_r, Option.bind_some, tsz _ hrl]
      by_cases h12 : 12 < runL (b :: r)
      · rw [if_pos h12]
        have : decide ((runL (b :: r) : Int) > 12) = true := by simp; omega
        cases decide (((⟨((b :: r).take (runL (b :: r))).toArray⟩ : ByteArray)).data.toList ∈ resv) <;> simp [this]
      · rw [if_neg h12]
        have : decide ((runL (b :: r) : Int) > 12) = false := by simp; omega
        simp only [this, Bool.false_eq_true, if_false]
        by_cases hm : (b :: r).take (runL (b :: r)) ∈ resv
        · have hm' : decide (((⟨((b :: r).take (runL (b :: r))).toArray⟩ : ByteArray)).data.toList ∈ resv) = true := by simpa using hm
          rw [hm', if_pos hm]
          have := tok 4 (runL (b :: r)) 0 hrl
          simp only [Int.natCast_zero] at this
          simp [this]
        · have hm' : decide (((⟨((b :: r).take (runL (b :: r))).toArray⟩ : ByteArray)).data.toList ∈ resv) = false := by simpa using hm
          rw [hm', if_neg hm]
          have := tok 1 (runL (b :: r)) 0 hrl
          simp only [Int.natCast_zero] at this
          simp [this]
    | false =>
      have hD : isD b = true := by unfold isA at hA; rw [hL] at hA; simpa using hA
      simp only [Bool.false_eq_true, if_false, hD, if_true, Option.bind_some, tsz _ hrl, h48]
      have hpos := runL_pos (b := b) (l := r) hA
      have hhd : (((b :: r).take (runL (b :: r))).head? == some 48) = (b == 48) := by
        obtain ⟨n, hn⟩ : ∃ n, runL (b :: r) = n + 1 := ⟨runL (b :: r) - 1, by omega⟩
        rw [hn]
        simp only [List.take_succ_cons, List.head?_cons]
        rw [Bool.eq_iff_iff]; simp
      have htl : ((b :: r).take (runL (b :: r))).length = runL (b :: r) := by rw [List.length_take]; omega
      unfold okNum
      rw [hhd, htl]
      by_cases c10 : 10 < runL (b :: r)
      · have : decide ((runL (b :: r) : Int) > 10) = true := by simp; omega
        have h2 : decide (runL (b :: r) ≤ 10) = false := by simp; omega
        simp [this, h2]
      · have c10' : decide ((runL (b :: r) : Int) > 10) = false := by simp; omega
        have h2 : decide (runL (b :: r) ≤ 10) = true := by simp; omega
        have h1 : decide ((runL (b :: r) : Int) > 1) = decide (1 < runL (b :: r)) := decide_eq_decide.mpr (by omega)
        simp only [c10', h2, h1, Bool.false_eq_true, if_false, Bool.true_and]
        have hnum := num_r (⟨((b :: r).take (runL (b :: r))).toArray⟩ : ByteArray) ((i : Int), acc) (by rw [tsz _ hrl]; omega)
        simp only [List.toList_toArray] at hnum
        cases hz : (decide (1 < runL (b :: r)) && (b == 48)) with
        | true =>
          simp only [Bool.and_eq_true, decide_eq_true_eq] at hz
          simp [hz.1, hz.2]
        | false =>
          have hj : (if decide (1 < runL (b :: r)) = true then some (b == 48) else some false) = some false := by
            cases h3 : decide (1 < runL (b :: r))
            · rfl
            · rw [h3, Bool.true_and] at hz; rw [hz]; rfl
          rw [hj, hnum]
          simp only [Option.bind_some, Bool.false_eq_true, if_false, Bool.not_false, Bool.true_and]
          cases hall : ((b :: r).take (runL (b :: r))).all isD with
          | false => simp
          | true =>
            simp only [if_true, Sum.elim_inr, Bool.true_and]
            by_cases hv : dval ((b :: r).take (runL (b :: r))) ≤ 2147483647
            · have hv2 : decide (((dval ((b :: r).take (runL (b :: r))) : Nat) : Int) > 2147483647) = false := by simp; omega
              have := tok 2 (runL (b :: r)) (dval ((b :: r).take (runL (b :: r)))) hrl
              simp [hv, hv2, this]
            · have hv2 : decide (((dval ((b :: r).take (runL (b :: r))) : Nat) : Int) > 2147483647) = true := by simp; omega
              simp [hv, hv2]
  · have hA : isA b = false := by simpa using hA
    have hLD := hA
    unfold isA at hLD
    rw [Bool.or_eq_false_iff] at hLD
    rw [run_r0 s b hA i hi]
    have hsg := sign_r s hs i hi
    rw [e] at hsg
    have hsl := signL_le (b :: r)
    simp only [Option.bind_some, Sum.elim_inr, letter_r, digit_r, hLD.1, hLD.2, Bool.false_eq_true, if_false, hsg]
    have hw : IntKind.i64.wrap ((i : Int) + ((signL (b :: r) : Nat) : Int)) = ((i + signL (b :: r) : Nat) : Int) := by rw [w64 (by omega) (by omega)]; omega
    rw [hw, cut _ hsl]
    by_cases hz : signL (b :: r) = 0
    · rw [if_pos hz]
      simp [hz]
    · rw [if_neg hz]
      have : (((signL (b :: r) : Nat) : Int) == 0) = false := by simpa using hz
      have ht := tok 3 (signL (b :: r)) 0 hsl
      simp only [Int.natCast_zero] at ht
      simp [this, ht]
theorem lex_it_r (s : ByteArray) (hs : s.size ≤ 4194304) : ∀ (d i : Nat) (acc : List Tok), s.size - i = d → i ≤ s.size → acc.length ≤ i →
    (iter (r01_Lex_l1 s) ((i : Int), acc.map tokR) >>= Sum.elim (fun r => some r) (fun j1 => if (decide ((j1.length : Int) > 2000)) then (some ([], (s.size : Int), 4)) else (some (j1, 0, 0)))) = some (finR s.size (acc ++ (lexS (s.data.toList.drop i) i).1, (lexS (s.data.toList.drop i) i).2)) := by
  intro d
  induction d using Nat.strongRecOn with
  | _ d ih =>
  intro i acc hd hi ha
  by_cases hlt : i < s.size
  · have hl : i < s.data.toList.length := by rw [size_list]; omega
    have e := List.drop_eq_getElem_cons hl
    have hb := bidx_get s i hl
    generalize s.data.toList[i] = b at e hb
    rw [e]
    by_cases hB : isB b = true
    · have hbody : r01_Lex_l1 s ((i : Int), acc.map tokR) = some (.inl (((i + 1 : Nat) : Int), acc.map tokR)) := by
        have h32 : ((b.toNat : Int) == 32) = (b == 32) := by
          rw [Bool.eq_iff_iff, beq_iff_eq, beq_iff_eq]
          constructor
          · intro h; exact UInt8.toNat_inj.mp (by have : (32 : UInt8).toNat = 32 := rfl; omega)
          · rintro rfl; rfl
        have h10 : ((b.toNat : Int) == 10) = (b == 10) := by
          rw [Bool.eq_iff_iff, beq_iff_eq, beq_iff_eq]
          constructor
          · intro h; exact UInt8.toNat_inj.mp (by have : (10 : UInt8).toNat = 10 := rfl; omega)
          · rintro rfl; rfl
        have hJ : (if (b == 32) = true then some true else some (b == 10)) = some true := by
          unfold isB at hB
          cases h : (b == 32)
          · rw [h, Bool.false_or] at hB; rw [hB]; rfl
          · rfl
        unfold r01_Lex_l1
        rw [if_pos (by simp; omega)]
        simp only [hb, Option.bind_eq_bind, Option.bind_some, h32, h10, hJ, if_true, wsucc (i := i) (by omega)]
      rw [lexS_blank _ _ hB, iter_in hbody]
      exact ih (s.size - (i + 1)) (by omega) (i + 1) acc rfl (by omega) (by omega)
    · have hB' : isB b = false := by simpa using hB
      have hbody := lex_body_r s hs i b _ (acc.map tokR) e hlt hB' (by simpa using ha)
      cases hw1 : word1 (b :: s.data.toList.drop (i + 1)) with
      | error c =>
        rw [hw1] at hbody
        rw [iter_out hbody, lexS_error hB' hw1]
        rfl
      | ok w =>
        rw [hw1] at hbody
        have hlen := word1_len hw1
        have hlen2 : w.len ≤ s.size - i := by
          have := hlen.2
          rw [← e, List.length_drop, size_list] at this
          exact this
        have hd2 : (b :: s.data.toList.drop (i + 1)).drop w.len = s.data.toList.drop (i + w.len) := by
          rw [← e, List.drop_drop]
        have IH := ih (s.size - (i + w.len)) (by omega) (i + w.len) (acc ++ [(⟨w.kind, (b :: s.data.toList.drop (i + 1)).take w.len, w.num, i⟩ : Tok)]) rfl (by omega) (by simp; omega)
        rw [iter_in hbody, lexS_ok hB' hw1, hd2]
        simp only [List.map_append, List.map_cons, List.map_nil, List.append_assoc, List.cons_append, List.nil_append] at IH
        exact IH
  · have hnil : s.data.toList.drop i = [] := List.drop_of_length_le (by rw [size_list]; omega)
    rw [hnil, lexS_nil]
    rw [iter_out (r := .inr (acc.map tokR)) (by unfold r01_Lex_l1; rw [if_neg (by simp; omega)])]
    simp only [List.append_nil, finR, told, List.length_map, Option.bind_eq_bind, Option.bind_some, Sum.elim_inr]
    by_cases h2 : 2000 < acc.length
    · rw [if_pos (by simp; omega), if_pos h2]; rfl
    · rw [if_neg (by simp; omega), if_neg h2]
theorem lex_r (s : ByteArray) (hs : s.size ≤ 4194304) : r01_Lex s = some (finR s.size (lexS s.data.toList 0)) := by
  have := lex_it_r s hs s.size 0 [] (by omega) (by omega) (by simp)
  unfold r01_Lex
  rw [← show (iter (r01_Lex_l1 s) (0, []) >>= Sum.elim (fun r => some r) (fun j1 => if (decide ((j1.length : Int) > 2000)) then (some ([], (s.size : Int), 4)) else (some (j1, 0, 0)))) = some (finR s.size (lexS s.data.toList 0)) by simpa using this]
theorem name_r (s : ByteArray) (hs : s.size ≤ 4194304) : r02_name s = some (nameOk s) := by
  unfold r02_name nameOk
  rw [lex_r s hs]
  simp only [Option.bind_eq_bind, Option.bind_some, finR, finT]
  generalize told s.size (lexS s.data.toList 0) = v
  obtain ⟨l, p, e⟩ := v
  by_cases he : e = 0
  · subst he
    match l with
    | [] => simp
    | [t] =>
      have : ∀ q : r01_Token, idx [q] 0 = some q := fun _ => rfl
      by_cases hk : t.kind = 1
      · simp [this, hk, tokR, tokT]
      · have hk' : (t.kind == 1) = false := by simpa using hk
        simp [this, hk, hk', tokR, tokT]
    | t :: t' :: r =>
      have : ¬ ((r.length : Int) + 1 + 1 = 1) := by omega
      have h2 : ((r.length : Int) + 1 + 1 == 1) = false := by simpa using this
      simp [this, h2]
  · have he' : (e == 0) = false := by simpa using he
    simp [he']
end Go.Proofs.YtaaihamelknhdaaGreatDoor.Abs.Wri
/- Of the reference: what may be is what the writer finds no fault with. -/
namespace Go.Proofs.YtaaihamelknhdaaGreatDoor.Abs.Wri
open Go Go.RowKit
set_option linter.unusedVariables false
set_option linter.unusedSimpArgs false
theorem two_r (k : Int) : r02_two k = some (pairK k) := by unfold r02_two pairK; by_cases h : k ≥ 4 <;> simp [h]
theorem num_ok_r (n : Int) : r02_number n = some (numOk n) := by unfold r02_number numOk; by_cases h : n ≥ 0 <;> simp [h]
theorem bc (b : Bool) : b = false ∨ b = true := by cases b <;> simp
theorem some_bind_id {α : Type} (x : Option α) : (x.bind fun v => some v) = x := by cases x <;> rfl
/-! ### Expressions -/
def gE : r02_Expr → Bool
  | ⟨k, n, s, []⟩ => if k == 1 then numOk n else k == 2 && nameOk s
  | ⟨k, _, _, [x]⟩ => k == 3 && gE x
  | ⟨k, _, _, [l, r]⟩ => pairK k && (gE l && gE r)
  | ⟨_, _, _, _ :: _ :: _ :: _⟩ => false
theorem inP_bad (m : Bool) (f : Int → Wr) (b : Bool) (p : Int) (h : ∀ q, (f q).bad = b) : (inP m f p).bad = b := by
  unfold inP
  split <;> simp [wW, wD, h]
theorem sE_bad : ∀ (e : r02_Expr) (p : Int), (sE (cE e) p).bad = !gE e
  | ⟨k, n, s, []⟩, p => by
    simp only [cE, cEs, sE, gE, wLeaf]
    by_cases h1 : k = 1
    · subst h1; simp [wM, wI]
    · by_cases h2 : k = 2
      · subst h2; simp [wM, wN]
      · simp [wM, wN, h1, h2]
  | ⟨k, n, s, [x]⟩, p => by
    have hx := sE_bad x
    simp only [cE, cEs, sE, gE]
    by_cases h3 : k = 3
    · subst h3
      have := inP_bad (pairK (cE x).Kind) (sE (cE x)) (!gE x) (p + 1) hx
      simp [wW, wD, this]
    · simp [wLeaf, wM, h3]
  | ⟨k, n, s, [l, r]⟩, p => by
    have hl := sE_bad l
    have hr := sE_bad r
    simp only [cE, cEs, sE, gE]
    cases hk : pairK k
    · simp [wLeaf, wM]
    · have h1 := inP_bad (!sumK k && sumK (cE l).Kind) (sE (cE l)) (!gE l) p hl
      have h2 := inP_bad (sumK (cE r).Kind || (!sumK k && pairK (cE r).Kind)) (sE (cE r)) (!gE r) p hr
      simp [wW, h1, h2]
  | ⟨k, n, s, a :: b :: c :: l⟩, p => by
    simp only [cE, cEs, sE, gE, wLeaf]
    have : (((cE a :: cE b :: cE c :: cEs l).length : Int) == 0) = false := by simp only [List.length_cons]; simp; omega
    simp only [Wr.bad_app, wM, this, Bool.not_false, Bool.true_or]
theorem expr_rN : ∀ e : r02_Expr, okE (cE e) → ∀ n, Sn n (szE (cE e)) (r02_exprN n e) (gE e)
  | ⟨k, m, s, []⟩, ho, n => by
    simp only [cE, cEs, okE] at ho
    cases n with
    | zero => exact .inr ⟨rfl, szE_pos _⟩
    | succ n =>
      refine .inl ?_
      simp only [r02_exprN, num_ok_r, two_r, name_r s ho.2.1, Option.bind_eq_bind, Option.bind_some, gE]
      by_cases h1 : k = 1
      · subst h1; cases numOk m <;> simp
      · by_cases h2 : k = 2
        · subst h2; cases nameOk s <;> simp
        · by_cases h3 : k = 3
          · subst h3; simp
          · cases hp : pairK k <;> simp [h1, h2, h3]
  | ⟨k, m, s, [x]⟩, ho, n => by
    simp only [cE, cEs, okE, okEs] at ho
    have hx := expr_rN x ho.2.2.1
    cases n with
    | zero => exact .inr ⟨rfl, szE_pos _⟩
    | succ n =>
      have e1 : ((([x] : List r02_Expr).length : Int) == 0) = false := rfl
      have e2 : ((([x] : List r02_Expr).length : Int) == 1) = true := rfl
      have e3 : ((([x] : List r02_Expr).length : Int) == 2) = false := rfl
      have e4 : idx [x] 0 = some x := rfl
      by_cases h3 : k = 3
      · subst h3
        simp only [r02_exprN, gE]
        rw [if_neg (by decide), if_neg (by decide), if_pos (by decide), e2, e4]
        simp only [if_true, Option.bind_eq_bind, Option.bind_some, some_bind_id]
        refine ((hx n).up.mono ?_)
        simp only [cE, cEs, szE, szEs]; omega
      · refine .inl ?_
        simp only [r02_exprN, num_ok_r, two_r, name_r s ho.2.1, Option.bind_eq_bind, Option.bind_some, gE, e1, e2, e3]
        by_cases h1 : k = 1
        · subst h1; cases numOk m <;> simp
        · by_cases h2 : k = 2
          · subst h2; cases nameOk s <;> simp
          · cases hp : pairK k <;> simp [h1, h2, h3]
  | ⟨k, m, s, [l, r]⟩, ho, n => by
    simp only [cE, cEs, okE, okEs] at ho
    have hl := expr_rN l ho.2.2.1
    have hr := expr_rN r ho.2.2.2.1
    cases n with
    | zero => exact .inr ⟨rfl, szE_pos _⟩
    | succ n =>
      have e1 : ((([l, r] : List r02_Expr).length : Int) == 0) = false := rfl
      have e2 : ((([l, r] : List r02_Expr).length : Int) == 1) = false := rfl
      have e3 : ((([l, r] : List r02_Expr).length : Int) == 2) = true := rfl
      have e4 : idx [l, r] 0 = some l := rfl
      have e5 : idx [l, r] 1 = some r := rfl
      cases hp : pairK k with
      | true =>
        have h1 : k ≠ 1 := by rintro rfl; cases hp
        have h2 : k ≠ 2 := by rintro rfl; cases hp
        have h3 : k ≠ 3 := by rintro rfl; cases hp
        simp only [r02_exprN, gE]
        rw [if_neg (by simpa using h1), if_neg (by simpa using h2), if_neg (by simpa using h3), two_r, hp, e3, e4]
        simp only [if_true, Option.bind_eq_bind, Option.bind_some, some_bind_id, e5, Bool.true_and]
        have t : Sn n (szE (cE ⟨k, m, s, [l, r]⟩) - 1) ((r02_exprN n l).bind fun v => if v then (r02_exprN n r) else some false) (gE l && gE r) := by
          refine Sn.bind (f := fun v => if v then (r02_exprN n r) else some false) ((hl n).mono (show szE (cE l) ≤ szE (cE ⟨k, m, s, [l, r]⟩) - 1 by simp only [cE, cEs, szE, szEs]; omega)) ?_
          cases gE l
          · exact .inl rfl
          · simp only [if_true, Bool.true_and]
            exact (hr n).mono (show szE (cE r) ≤ szE (cE ⟨k, m, s, [l, r]⟩) - 1 by simp only [cE, cEs, szE, szEs]; omega)
        exact t.up.mono (by have := szE_pos (cE ⟨k, m, s, [l, r]⟩); omega)
      | false =>
        refine .inl ?_
        simp only [r02_exprN, num_ok_r, two_r, name_r s ho.2.1, Option.bind_eq_bind, Option.bind_some, gE, e1, e2, e3, hp]
        by_cases h1 : k = 1
        · subst h1; cases numOk m <;> simp
        · by_cases h2 : k = 2
          · subst h2; cases nameOk s <;> simp
          · simp [h1, h2]
  | ⟨k, m, s, a :: b :: c :: l⟩, ho, n => by
    simp only [cE, cEs, okE] at ho
    cases n with
    | zero => exact .inr ⟨rfl, szE_pos _⟩
    | succ n =>
      have e1 : (((a :: b :: c :: l).length : Int) == 0) = false := by simp only [List.length_cons]; simp; omega
      have e2 : (((a :: b :: c :: l).length : Int) == 1) = false := by simp only [List.length_cons]; simp; omega
      have e3 : (((a :: b :: c :: l).length : Int) == 2) = false := by simp only [List.length_cons]; simp; omega
      refine .inl ?_
      simp only [r02_exprN, num_ok_r, two_r, name_r s ho.2.1, Option.bind_eq_bind, Option.bind_some, gE, e1, e2, e3]
      by_cases h1 : k = 1
      · subst h1; cases numOk m <;> simp
      · by_cases h2 : k = 2
        · subst h2; cases nameOk s <;> simp
        · by_cases h3 : k = 3
          · subst h3; simp
          · cases hp : pairK k <;> simp [h1, h2, h3]
theorem expr_r {e : r02_Expr} (h : okE (cE e)) : r02_expr e = some (gE e) := Sn.unf fun n => expr_rN e h n
def gC (c : r02_Cond) : Bool := opOk c.Op && (gE c.L && gE c.R)
theorem sC_bad (c : r02_Cond) (p : Int) : (sC (cC c) p).bad = !gC c := by
  unfold sC gC cC
  simp only [Wr.bad_app, sE_bad]
  cases opOk c.Op <;> simp [wW, wM]
theorem cond_r {c : r02_Cond} (h : okC (cC c)) : r02_cond c = some (gC c) := by
  unfold r02_cond gC opOk
  rw [expr_r (e := c.L) h.1, expr_r (e := c.R) h.2]
  by_cases h1 : c.Op ≥ 1
  · by_cases h2 : c.Op ≤ 6
    · cases gE c.L <;> simp [h1, h2]
    · simp [h1, h2]
  · simp [h1]
/-! ### Statements -/
mutual
def gS : r02_Stmt → Bool
  | .mk k n t e c b l a =>
    if k == 1 then nameOk n && gE e
    else if k == 2 then gC c && (gL b && gL l)
    else if k == 3 then gC c && gL b
    else if k == 4 then nameOk n && (nameOk t && gE e)
    else if k == 5 then (nameOk n && !a.isEmpty) && gA a
    else if k == 6 then gC c
    else if k == 7 then nameOk n
    else false
def gL : List r02_Stmt → Bool
  | [] => true
  | s :: r => gS s && gL r
def gA : List r02_Arm → Bool
  | [] => true
  | .mk t v b :: r => (nameOk t && (nameOk v && gL b)) && gA r
end
def gAr (x : r02_Arm) : Bool := nameOk x.Tag && (nameOk x.Var && gL x.Body)
theorem gL_all : ∀ l, gL l = l.all gS
  | [] => by simp only [gL]; rfl
  | s :: r => by simp only [gL, List.all_cons, gL_all r]
theorem gA_all : ∀ l, gA l = l.all gAr
  | [] => by simp only [gA]; rfl
  | .mk t v b :: r => by simp only [gA, List.all_cons, gA_all r]; rfl
theorem inB_bad {f : Int → Wr} {b : Bool} (p : Int) (h : ∀ q, (f q).bad = b) : (inB f p).bad = b := by unfold inB; simp [wW, wD, h]
mutual
theorem sS_bad : ∀ (s : r02_Stmt) (b p : Int), (sS (cS s) b p).bad = !gS s
  | .mk k n t e c bo el ar, b, p => by
    have hb := fun q => sL_bad bo q p
    have he := fun q => sL_bad el q p
    have ha := sA_bad ar b p
    have hB := inB_bad (f := fun q => sL (cL bo) q p) b hb
    have hE := inB_bad (f := fun q => sL (cL el) q p) b he
    simp only [cS, sS, gS]
    split
    · simp [wW, wN, sE_bad]
    · split
      · cases hel : el with
        | nil =>
          subst hel
          simp [wW, sC_bad, hB, cL, gL, Wr.nil]
        | cons x r =>
          subst hel
          have : (cL (x :: r)).isEmpty = false := by simp only [cL]; rfl
          simp [wW, sC_bad, hB, hE, this, Bool.not_and]
      · split
        · simp [wW, sC_bad, hB]
        · split
          · simp [wW, wN, sE_bad]
          · split
            · have : (cA ar).isEmpty = ar.isEmpty := by cases ar with
                | nil => simp only [cA]; rfl
                | cons x r => cases x; simp only [cA]; rfl
              simp [wW, wN, wM, ha, this, Bool.or_assoc]
            · split
              · simp [wW, sC_bad]
              · split
                · simp [wW, wN]
                · simp [wM]
theorem sL_bad : ∀ (l : List r02_Stmt) (b p : Int), (sL (cL l) b p).bad = !gL l
  | [], b, p => by simp only [cL, sL, gL]; rfl
  | s :: r, b, p => by
    have h1 := sS_bad s b p
    have h2 := sL_bad r b p
    simp only [cL, sL, gL, Wr.bad_app, h1, h2, Bool.not_and]
theorem sA_bad : ∀ (l : List r02_Arm) (b p : Int), (sA (cA l) b p).bad = !gA l
  | [], b, p => by simp only [cA, sA, gA]; rfl
  | .mk t v bo :: r, b, p => by
    have h1 := fun q => sL_bad bo q p
    have h2 := sA_bad r b p
    have hB := inB_bad (f := fun q => sL (cL bo) q p) b h1
    simp only [cA, sA, gA]
    simp [wW, wN, hB, h2, Bool.or_assoc]
end
/-- The arms' loop: what may be so far. -/
theorem r_arms_loop {F : List r02_Stmt → Option Bool} {v1 : r02_Stmt} {n H : Nat} (hlen : v1.Arms.length ≤ 400000000000) (hF : ∀ x ∈ v1.Arms, Sn n H (F x.Body) (gL x.Body)) (hN : ∀ x ∈ v1.Arms, x.Tag.size ≤ 4194304 ∧ x.Var.size ≤ 4194304) :
    ∀ (m : List r02_Arm) (i : Nat) (ok : Bool), v1.Arms.drop i = m → i ≤ v1.Arms.length → Sn n H (iter (r02_stmts_l4 F v1) (ok, (i : Int))) (.inr (ok && m.all gAr)) := by
  intro m
  induction m with
  | nil =>
    intro i ok hd hi
    have : i = v1.Arms.length := by have := List.drop_eq_nil_iff.1 hd; omega
    subst this
    exact .inl (by rw [iter_out (r := .inr ok) (by unfold r02_stmts_l4; rw [if_neg (by simp)])]; simp)
  | cons x m ih =>
    intro i ok hd hi
    have hlt : i < v1.Arms.length := by
      refine Nat.lt_of_not_le fun h => ?_
      rw [List.drop_of_length_le h] at hd; cases hd
    rw [List.drop_eq_getElem_cons hlt] at hd
    injection hd with h1 h2
    have hi2 : idx v1.Arms (i : Int) = some x := by rw [idx_ok hlt, h1]
    have hm : x ∈ v1.Arms := by rw [← h1]; exact List.getElem_mem hlt
    have h3 : Sn n H (r02_stmts_l4 F v1 (ok, (i : Int))) (.inl (ok && gAr x, ((i + 1 : Nat) : Int))) := by
      unfold r02_stmts_l4
      rw [if_pos (by simpa using hlt)]
      simp only [hi2, Option.bind_eq_bind, Option.bind_some, name_r _ (hN x hm).1, name_r _ (hN x hm).2, wsucc (i := i) (by omega), some_bind_id, gAr]
      cases ok with
      | false => exact .inl rfl
      | true =>
        simp only [if_true, Bool.true_and]
        cases nameOk x.Tag with
        | false => exact .inl rfl
        | true =>
          simp only [if_true, Bool.true_and]
          cases nameOk x.Var with
          | false => exact .inl rfl
          | true =>
            simp only [if_true, Bool.true_and]
            exact Sn.bind (f := _) (hF x hm) (.inl rfl)
    have h4 := ih (i + 1) (ok && gAr x) h2 hlt
    rw [iter_eq]
    refine Sn.bind (f := _) h3 ?_
    simp only [List.all_cons, ← Bool.and_assoc]
    exact h4
theorem cS_eq (k : Int) (nm tg : ByteArray) (e : r02_Expr) (c : r02_Cond) (bo el : List r02_Stmt) (ar : List r02_Arm) : szS (cS (.mk k nm tg e c bo el ar)) = 4 + szE (cE e) + szC (cC c) + szL (cL bo) + szL (cL el) + szA (cA ar) := by simp only [cS, szS]
theorem okL_memc {l : List r02_Stmt} (h : okL (cL l)) {s : r02_Stmt} (hs : s ∈ l) : okS (cS s) ∧ szS (cS s) + 1 ≤ szL (cL l) := by
  refine okL_mem h (cS s) ?_
  rw [cL_map]; exact List.mem_map.2 ⟨s, hs, rfl⟩
theorem okA_memc : ∀ {l : List r02_Arm}, okA (cA l) → ∀ x ∈ l, x.Tag.size ≤ 4194304 ∧ x.Var.size ≤ 4194304 ∧ okL (cL x.Body) ∧ szL (cL x.Body) ≤ szA (cA l)
  | [], _, s, hs => by cases hs
  | .mk t v b :: r, ho, s, hs => by
    simp only [cA, okA] at ho
    simp only [cA, szA]
    rcases List.mem_cons.1 hs with rfl | hs
    · exact ⟨ho.1, ho.2.1, ho.2.2.1, by show szL (cL b) ≤ _; omega⟩
    · obtain ⟨h1, h2, h3, h4⟩ := okA_memc ho.2.2.2 s hs
      exact ⟨h1, h2, h3, by omega⟩
theorem stmts_rN : ∀ (N : Nat) (l : List r02_Stmt), szL (cL l) ≤ N → N ≤ 400000000000 → okL (cL l) → ∀ n, Sn n (szL (cL l)) (r02_stmtsN n l) (gL l) := by
  intro N
  induction N with
  | zero => intro l hl; have := szL_pos (cL l); omega
  | succ N ih =>
    intro l hl hN ho n
    cases n with
    | zero => exact .inr ⟨rfl, szL_pos _⟩
    | succ n =>
      have hll := cL_len l
      have hp := szL_pos (cL l)
      have h := allloop (n := n) (H := szL (cL l) - 1) (body := r02_stmts_l1 (r02_stmtsN n) l) l gS false (by omega)
        (fun i x h0 hx hm hlt hw => by
          obtain ⟨hoS, hz⟩ := okL_memc ho hm
          obtain ⟨k, nm, tg, e, c, bo, el, ar⟩ := x
          rw [cS_eq] at hz
          simp only [cS, okS] at hoS
          obtain ⟨on, ot, oe, oc, ob, oel, oar⟩ := hoS
          have p1 := szL_pos (cL bo)
          have p2 := szL_pos (cL el)
          have p3 := szA_pos (cA ar)
          have fb := (ih bo (by omega) (by omega) ob n).mono (show szL (cL bo) ≤ szL (cL l) - 1 by omega)
          have fe := (ih el (by omega) (by omega) oel n).mono (show szL (cL el) ≤ szL (cL l) - 1 by omega)
          unfold r02_stmts_l1
          rw [if_pos (by simpa using hlt), hx]
          simp only [Option.bind_eq_bind, Option.bind_some, hw]
          dsimp only [r02_Stmt.Kind, r02_Stmt.Name, r02_Stmt.Tag, r02_Stmt.E, r02_Stmt.C, r02_Stmt.Body, r02_Stmt.Else]
          simp only [name_r _ on, name_r _ ot, expr_r oe, cond_r oc, Option.bind_some, gS]
          by_cases h1 : k = 1
          · subst h1; refine .inl ?_; simp only [Int.reduceBEq, if_true, Bool.false_eq_true, if_false]; cases nameOk nm <;> cases gE e <;> rfl
          by_cases h2 : k = 2
          · subst h2
            simp only [show ((2 : Int) == 1) = false from rfl, show ((2 : Int) == 2) = true from rfl, if_true, Bool.false_eq_true, if_false]
            cases gC c with
            | false => exact .inl rfl
            | true =>
              simp only [if_true, Bool.true_and, Option.bind_assoc]
              refine Sn.bind (f := _) fb ?_
              cases gL bo with
              | false => exact .inl rfl
              | true =>
                simp only [if_true, Bool.true_and, Option.bind_assoc]
                refine Sn.bind (f := _) fe ?_
                cases gL el <;> exact .inl rfl
          by_cases h3 : k = 3
          · subst h3
            simp only [show ((3 : Int) == 1) = false from rfl, show ((3 : Int) == 2) = false from rfl, show ((3 : Int) == 3) = true from rfl, if_true, Bool.false_eq_true, if_false]
            cases gC c with
            | false => exact .inl rfl
            | true =>
              simp only [if_true, Bool.true_and, Option.bind_assoc]
              refine Sn.bind (f := _) fb ?_
              cases gL bo <;> exact .inl rfl
          by_cases h4 : k = 4
          · subst h4; refine .inl ?_; simp only [Int.reduceBEq, if_true, Bool.false_eq_true, if_false]; cases nameOk nm <;> cases nameOk tg <;> cases gE e <;> rfl
          by_cases h5 : k = 5
          · subst h5
            simp only [show ((5 : Int) == 1) = false from rfl, show ((5 : Int) == 2) = false from rfl, show ((5 : Int) == 3) = false from rfl, show ((5 : Int) == 4) = false from rfl, show ((5 : Int) == 5) = true from rfl, if_true, Bool.false_eq_true, if_false]
            have hal := cA_len ar
            have hlen : (decide (((ar.length : Nat) : Int) > 0)) = !ar.isEmpty := by cases ar <;> simp
            have key := fun ok => r_arms_loop (F := r02_stmtsN n) (v1 := .mk 5 nm tg e c bo el ar) (n := n) (H := szL (cL l) - 1) (by show ar.length ≤ _; omega)
              (fun y hy => by obtain ⟨_, _, o3, z3⟩ := okA_memc oar y hy; exact (ih y.Body (by omega) (by omega) o3 n).mono (by omega))
              (fun y hy => by obtain ⟨o1, o2, _, _⟩ := okA_memc oar y hy; exact ⟨o1, o2⟩) ar 0 ok rfl (by omega)
            have hj : ((if nameOk nm = true then some (decide ((((r02_Stmt.mk 5 nm tg e c bo el ar).Arms.length : Nat) : Int) > 0)) else some false) : Option Bool) = some (nameOk nm && !ar.isEmpty) := by
              show ((if nameOk nm = true then some (decide (((ar.length : Nat) : Int) > 0)) else some false) : Option Bool) = _
              rw [hlen]; cases nameOk nm <;> rfl
            rw [hj]
            simp only [Option.bind_some, Option.bind_assoc]
            refine Sn.bind (f := _) (key (nameOk nm && !ar.isEmpty)) ?_
            rw [gA_all]
            simp only [Sum.elim_inr]
            cases ((nameOk nm && !ar.isEmpty) && ar.all gAr) <;> exact .inl rfl
          by_cases h6 : k = 6
          · subst h6; refine .inl ?_; simp only [Int.reduceBEq, if_true, Bool.false_eq_true, if_false]; cases gC c <;> rfl
          by_cases h7 : k = 7
          · subst h7; refine .inl ?_; simp only [Int.reduceBEq, if_true, Bool.false_eq_true, if_false]; cases nameOk nm <;> rfl
          · refine .inl ?_
            simp [h1, h2, h3, h4, h5, h6, h7])
        (by unfold r02_stmts_l1; rw [if_neg (by simp)])
      rw [← gL_all] at h
      have t2 := (Sn.bind (f := Sum.elim (fun r => some r) (fun j1 => some true)) h (t := gL l) (.inl (by cases gL l <;> rfl))).up
      exact t2.mono (by omega)
theorem stmts_r {l : List r02_Stmt} (ho : okL (cL l)) (h : szL (cL l) ≤ 400000000000) : r02_stmts l = some (gL l) := Sn.unf fun n => stmts_rN _ l (Nat.le_refl _) h ho n
/-! ### Systems -/
def gCh (c : r02_Chan) : Bool := nameOk c.Name && (nameOk c.From && (nameOk c.To && (kindOk c.Kind && (numOk c.Size && (!c.Tags.isEmpty && c.Tags.all nameOk)))))
def gMo (m : r02_Move) : Bool := numOk m.From && (numOk m.To && nameOk m.Tag)
def gR (r : r02_Rule) : Bool := nameOk r.Chan && r.Moves.all gMo
def gP (p : r02_Proc) : Bool := nameOk p.Name && (gL p.Body && p.Vars.all nameOk)
def gSys (s : r02_System) : Bool := s.Chans.all gCh && (s.Rules.all gR && s.Procs.all gP)
theorem flat_badB {β : Type} {g : Nat → β → Wr} {p : β → Bool} : ∀ {l : List β} {i : Nat}, (∀ i, ∀ x ∈ l, (g i x).bad = !p x) → (flatW g i l).bad = !l.all p
  | [], i, h => rfl
  | x :: r, i, h => by simp only [flatW, Wr.bad_app, h i x List.mem_cons_self, flat_badB (p := p) fun i y hy => h i y (List.mem_cons_of_mem _ hy), List.all_cons, Bool.not_and]
theorem sSys_bad (s : r02_System) : (sSys (cSys s)).bad = !gSys s := by
  unfold sSys gSys
  simp only [cSys, Wr.bad_app, Bool.not_and]
  rw [flat_badB (p := fun c => (!(sCh c).bad)) (fun i x _ => by simp), flat_badB (p := fun c => (!(sR c).bad)) (fun i x _ => by simp), flat_badB (p := fun c => (!(sP c).bad)) (fun i x _ => by simp)]
  simp only [List.all_map]
  have e1 : (fun c => !(sCh c).bad) ∘ cCh = gCh := by
    funext c
    have ht := flat_badB (g := wTag) (p := nameOk) (l := c.Tags) (i := 0) (fun i x _ => by unfold wTag; split <;> simp [wN, wW])
    simp only [Function.comp, sCh, cCh, Wr.bad_app, ht, gCh]
    rcases bc (kindOk c.Kind) with hk | hk
    · simp [hk, wW, wN, wI, wM]
    · simp [hk, wW, wN, wI, wM]
      cases nameOk c.Name <;> cases numOk c.Size <;> cases nameOk c.From <;> cases nameOk c.To <;> rfl
  have e2 : (fun c => !(sR c).bad) ∘ cRu = gR := by
    funext r
    have ht := flat_badB (g := wMove) (p := fun m => numOk m.From && (numOk m.To && nameOk m.Tag)) (l := r.Moves.map cMo) (i := 0) (fun i x _ => by unfold wMove; simp [wI, wN, wW]; cases numOk x.From <;> cases numOk x.To <;> cases nameOk x.Tag <;> rfl)
    simp only [Function.comp, sR, cRu, Wr.bad_app, ht, gR, List.all_map]
    have : ((fun m : ast_Move => numOk m.From && (numOk m.To && nameOk m.Tag)) ∘ cMo) = gMo := rfl
    rw [this]
    simp [wW, wN]
  have e3 : (fun c => !(sP c).bad) ∘ cPr = gP := by
    funext p
    have ht := flat_badB (g := wVar) (p := nameOk) (l := p.Vars) (i := 0) (fun i x _ => by simp [wVar, wN, wW])
    simp only [Function.comp, sP, cPr, Wr.bad_app, ht, gP, sL_bad]
    simp [wW, wN]
    cases nameOk p.Name <;> cases gL p.Body <;> cases p.Vars.all nameOk <;> rfl
  rw [e1, e2, e3]
theorem okCh_c {s : r02_System} (ho : okSys (cSys s)) {c : r02_Chan} (h : c ∈ s.Chans) : okCh (cCh c) := ho.1 _ (List.mem_map.2 ⟨c, h, rfl⟩)
theorem okR_c {s : r02_System} (ho : okSys (cSys s)) {c : r02_Rule} (h : c ∈ s.Rules) : okR (cRu c) := ho.2.1 _ (List.mem_map.2 ⟨c, h, rfl⟩)
theorem okP_c {s : r02_System} (ho : okSys (cSys s)) {c : r02_Proc} (h : c ∈ s.Procs) : okP (cPr c) := ho.2.2 _ (List.mem_map.2 ⟨c, h, rfl⟩)
theorem sz_ch {s : r02_System} {c : r02_Chan} (h : c ∈ s.Chans) : 3 + c.Tags.length ≤ szSys (cSys s) := by
  have := sumN_mem (c := szCh) (List.mem_map.2 ⟨c, h, rfl⟩ : cCh c ∈ (cSys s).Chans)
  have e : szCh (cCh c) = 3 + c.Tags.length := rfl
  unfold szSys; simp only [cSys] at this ⊢; omega
theorem sz_ru {s : r02_System} {c : r02_Rule} (h : c ∈ s.Rules) : 1 + c.Moves.length ≤ szSys (cSys s) := by
  have := sumN_mem (c := szR) (List.mem_map.2 ⟨c, h, rfl⟩ : cRu c ∈ (cSys s).Rules)
  have e : szR (cRu c) = 1 + (c.Moves.map cMo).length := rfl
  rw [List.length_map] at e
  unfold szSys; simp only [cSys] at this ⊢; omega
theorem sz_pr {s : r02_System} {c : r02_Proc} (h : c ∈ s.Procs) : 1 + c.Vars.length + szL (cL c.Body) ≤ szSys (cSys s) := by
  have := sumN_mem (c := szP) (List.mem_map.2 ⟨c, h, rfl⟩ : cPr c ∈ (cSys s).Procs)
  have e : szP (cPr c) = 1 + c.Vars.length + szL (cL c.Body) := rfl
  unfold szSys; simp only [cSys] at this ⊢; omega
theorem lens (s : r02_System) : s.Chans.length ≤ szSys (cSys s) ∧ s.Rules.length ≤ szSys (cSys s) ∧ s.Procs.length ≤ szSys (cSys s) := by
  have n1 := sumN_len (c := szCh) (fun x => by unfold szCh; omega) (cSys s).Chans
  have n2 := sumN_len (c := szR) (fun x => by unfold szR; omega) (cSys s).Rules
  have n3 := sumN_len (c := szP) (fun x => by unfold szP; omega) (cSys s).Procs
  simp only [cSys, List.length_map] at n1 n2 n3
  unfold szSys; simp only [cSys]; omega
theorem right_r {s : r02_System} (ho : okSys (cSys s)) (hs : szSys (cSys s) ≤ 400000000000) : r02_Right s = some (gSys s) := by
  obtain ⟨l1, l2, l3⟩ := lens s
  unfold r02_Right
  rw [allloop_f (body := r02_Right_l1 s) s.Chans gCh false (by omega) (fun i x h0 h1 hm hlt hw => by
    obtain ⟨o1, o2, o3, o4, o5⟩ := okCh_c ho hm
    have hz := sz_ch hm
    have ht := allloop_f (body := r02_Right_l3 x) x.Tags nameOk false (by omega) (fun i y g0 g1 gm glt gw => by
      unfold r02_Right_l3
      rw [if_pos (by simpa using glt), g1]
      simp only [Option.bind_eq_bind, Option.bind_some, name_r y (o5 y gm), gw]
      rcases bc (nameOk y) with b0 | b0 <;> simp [b0]) (by unfold r02_Right_l3; rw [if_neg (by simp)])
    unfold r02_Right_l1
    rw [if_pos (by simpa using hlt), h1]
    simp only [cCh] at o1 o2 o3
    simp only [Option.bind_eq_bind, Option.bind_some, name_r _ o1, name_r _ o2, name_r _ o3, num_ok_r, hw, ht, gCh, kindOk]
    rcases bc (nameOk x.Name) with b1 | b1
    · simp [b1]
    rcases bc (nameOk x.From) with b2 | b2
    · simp [b1, b2]
    rcases bc (nameOk x.To) with b3 | b3
    · simp [b1, b2, b3]
    by_cases k1 : x.Kind < 0
    · have : ¬ (x.Kind ≥ 0) := by omega
      simp [b1, b2, b3, k1, this]
    by_cases k2 : x.Kind > 2
    · have h3 : ¬ (x.Kind < 3) := by omega
      simp [b1, b2, b3, k1, k2, h3]
    have h3 : x.Kind ≥ 0 := by omega
    have h4 : x.Kind < 3 := by omega
    rcases bc (numOk x.Size) with b4 | b4
    · simp [b1, b2, b3, b4, k1, k2, h3, h4]
    have e : (((x.Tags.length : Nat) : Int) == 0) = x.Tags.isEmpty := by cases x.Tags <;> simp; omega
    rcases bc x.Tags.isEmpty with hte | hte
    · rcases bc (x.Tags.all nameOk) with hta | hta <;> simp [b1, b2, b3, b4, k1, k2, h3, h4, e, hte, hta]
    · simp [b1, b2, b3, b4, k1, k2, h3, h4, e, hte]) (by unfold r02_Right_l1; rw [if_neg (by simp)])]
  simp only [Option.bind_eq_bind, Option.bind_some, gSys]
  rcases bc (s.Chans.all gCh) with hc | hc
  · rw [hc]; rfl
  rw [hc]
  simp only [if_true, Sum.elim_inr, Bool.true_and]
  rw [allloop_f (body := r02_Right_l4 s) s.Rules gR false (by omega) (fun i x h0 h1 hm hlt hw => by
    obtain ⟨o1, o2⟩ := okR_c ho hm
    have hz := sz_ru hm
    have ht := allloop_f (body := r02_Right_l5 s (i : Int)) x.Moves gMo false (by omega) (fun j y g0 g1 gm glt gw => by
      have o3 := o2 (cMo y) (List.mem_map.2 ⟨y, gm, rfl⟩)
      have o4 : y.Tag.size ≤ 4194304 := o3.2.1
      unfold r02_Right_l5
      rw [h1]
      simp only [Option.bind_eq_bind, Option.bind_some]
      rw [if_pos (by simpa using glt), g1]
      simp only [Option.bind_some, name_r _ o4, num_ok_r, gw, gMo]
      rcases bc (numOk y.From) with b1 | b1
      · simp [b1]
      rcases bc (numOk y.To) with b2 | b2
      · simp [b1, b2]
      rcases bc (nameOk y.Tag) with b3 | b3 <;> simp [b1, b2, b3]) (by unfold r02_Right_l5; rw [h1]; simp only [Option.bind_eq_bind, Option.bind_some]; rw [if_neg (by simp)])
    unfold r02_Right_l4
    have o1' : x.Chan.size ≤ 4194304 := o1
    rw [if_pos (by simpa using hlt), h1]
    simp only [Option.bind_eq_bind, Option.bind_some, name_r _ o1', hw, ht, gR]
    rcases bc (nameOk x.Chan) with b1 | b1
    · simp [b1]
    rcases bc (x.Moves.all gMo) with b2 | b2 <;> simp [b1, b2]) (by unfold r02_Right_l4; rw [if_neg (by simp)])]
  simp only [Option.bind_some]
  rcases bc (s.Rules.all gR) with hr | hr
  · rw [hr]; rfl
  rw [hr]
  simp only [if_true, Sum.elim_inr, Bool.true_and]
  rw [allloop_f (body := r02_Right_l7 s) s.Procs gP false (by omega) (fun i x h0 h1 hm hlt hw => by
    obtain ⟨o1, o2, o3⟩ := okP_c ho hm
    have hz := sz_pr hm
    have ht := allloop_f (body := r02_Right_l9 x) x.Vars nameOk false (by omega) (fun i y g0 g1 gm glt gw => by
      unfold r02_Right_l9
      rw [if_pos (by simpa using glt), g1]
      simp only [Option.bind_eq_bind, Option.bind_some, name_r y (o2 y gm), gw]
      rcases bc (nameOk y) with b0 | b0 <;> simp [b0]) (by unfold r02_Right_l9; rw [if_neg (by simp)])
    unfold r02_Right_l7
    have o1' : x.Name.size ≤ 4194304 := o1
    have o3' : okL (cL x.Body) := o3
    rw [if_pos (by simpa using hlt), h1]
    simp only [Option.bind_eq_bind, Option.bind_some, name_r _ o1', stmts_r o3' (by omega), hw, ht, gP]
    rcases bc (nameOk x.Name) with b1 | b1
    · simp [b1]
    rcases bc (gL x.Body) with b2 | b2
    · simp [b1, b2]
    rcases bc (x.Vars.all nameOk) with b3 | b3 <;> simp [b1, b2, b3]) (by unfold r02_Right_l7; rw [if_neg (by simp)])]
  simp only [Option.bind_some]
  rcases bc (s.Procs.all gP) with hp | hp <;> rw [hp] <;> rfl
end Go.Proofs.YtaaihamelknhdaaGreatDoor.Abs.Wri
/- Of the reference: how deep something is, is what the writer reckons. -/
namespace Go.Proofs.YtaaihamelknhdaaGreatDoor.Abs.Wri
open Go Go.RowKit
set_option linter.unusedVariables false
set_option linter.unusedSimpArgs false
def leftB (k q : Int) : Bool := !sumK k && sumK q
def rightB (k q : Int) : Bool := sumK q || (!sumK k && pairK q)
theorem sum_iff (k : Int) : sumK k = true ↔ k = 4 ∨ k = 5 := by unfold sumK; simp
theorem pair_iff (k : Int) : pairK k = true ↔ 4 ≤ k ∧ k ≤ 8 := by unfold pairK; simp
theorem left_r {e x : r02_Expr} (h : pairK e.Kind = true) : r02_left e x = some (leftB e.Kind x.Kind) := by
  rw [pair_iff] at h
  unfold r02_left leftB
  have hs : (if (x.Kind == 4) = true then some true else some (x.Kind == 5)) = some (sumK x.Kind) := by unfold sumK; cases (x.Kind == 4) <;> simp
  by_cases h6 : e.Kind ≥ 6
  · have : sumK e.Kind = false := by rw [Bool.eq_false_iff]; intro h2; rw [sum_iff] at h2; omega
    rw [if_pos (by simpa using h6), hs, this]; rfl
  · have : sumK e.Kind = true := by rw [sum_iff]; omega
    rw [if_neg (by simpa using h6), this]; rfl
theorem right_rr {e x : r02_Expr} (h : pairK e.Kind = true) : r02_right e x = some (rightB e.Kind x.Kind) := by
  rw [pair_iff] at h
  unfold r02_right rightB
  have hs : (if (x.Kind == 4) = true then some true else some (x.Kind == 5)) = some (sumK x.Kind) := by unfold sumK; cases (x.Kind == 4) <;> simp
  by_cases h6 : e.Kind ≥ 6
  · have : sumK e.Kind = false := by rw [Bool.eq_false_iff]; intro h2; rw [sum_iff] at h2; omega
    rw [if_pos (by simpa using h6), two_r, this]
    have : (sumK x.Kind || pairK x.Kind) = pairK x.Kind := by
      rw [Bool.eq_iff_iff, Bool.or_eq_true, sum_iff, pair_iff]; omega
    simp [this]
  · have : sumK e.Kind = true := by rw [sum_iff]; omega
    rw [if_neg (by simpa using h6), hs, this]; simp
def bn (b : Bool) : Nat := if b then 1 else 0
def dE : r02_Expr → Nat
  | ⟨_, _, _, []⟩ => 0
  | ⟨_, _, _, [x]⟩ => 1 + bn (pairK x.Kind) + dE x
  | ⟨k, _, _, [l, r]⟩ => max (dE l + bn (leftB k l.Kind)) (dE r + bn (rightB k r.Kind))
  | ⟨_, _, _, _ :: _ :: _ :: _⟩ => 0
theorem bn_le (b : Bool) : bn b ≤ 1 := by cases b <;> decide
theorem dE_le : ∀ e : r02_Expr, dE e ≤ 2 * szE (cE e)
  | ⟨k, n, s, []⟩ => by simp only [dE]; omega
  | ⟨k, n, s, [x]⟩ => by
    have := dE_le x; have := bn_le (pairK x.Kind)
    simp only [dE, cE, cEs, szE, szEs]; omega
  | ⟨k, n, s, [l, r]⟩ => by
    have := dE_le l; have := dE_le r; have := bn_le (leftB k l.Kind); have := bn_le (rightB k r.Kind)
    simp only [dE, cE, cEs, szE, szEs]; omega
  | ⟨k, n, s, a :: b :: c :: l⟩ => by simp only [dE]; omega
theorem cE_kind (e : r02_Expr) : (cE e).Kind = e.Kind := by cases e; simp only [cE]
def dpB (d : Nat) (p : Int) : Bool := decide (1 ≤ d) && decide (p + (d : Int) > 24)
theorem inP_dp (m : Bool) (f : Int → Wr) (d : Nat) (p : Int) (h : ∀ q, (f q).dp = dpB d q) : (inP m f p).dp = dpB (d + bn m) p := by
  unfold inP
  cases m with
  | false => simp only [Bool.false_eq_true, if_false, bn, Nat.add_zero]; exact h p
  | true =>
    simp only [if_true, Wr.dp_app, h, bn, wW, wD, dpB]
    rw [Bool.eq_iff_iff]
    simp only [Bool.or_eq_true, Bool.and_eq_true, decide_eq_true_eq, Bool.false_eq_true, false_or, or_false]
    omega
theorem sE_dp : ∀ (e : r02_Expr) (p : Int), gE e = true → (sE (cE e) p).dp = dpB (dE e) p
  | ⟨k, n, s, []⟩, p, h => by
    simp only [cE, cEs, sE, wLeaf, dE, dpB]
    split <;> simp [wM, wI, wN]
  | ⟨k, n, s, [x]⟩, p, h => by
    simp only [gE, Bool.and_eq_true, beq_iff_eq] at h
    obtain ⟨rfl, h⟩ := h
    have hx := fun q => sE_dp x q h
    have := inP_dp (pairK (cE x).Kind) (sE (cE x)) (dE x) (p + 1) hx
    rw [cE_kind] at this
    simp only [cE, cEs, sE, dE, show ((3 : Int) == 3) = true from rfl, if_true, Wr.dp_app, cE_kind, this]
    simp only [wW, wD, dpB, Bool.false_or]
    rw [Bool.eq_iff_iff]
    simp only [Bool.or_eq_true, Bool.and_eq_true, decide_eq_true_eq]
    omega
  | ⟨k, n, s, [l, r]⟩, p, h => by
    simp only [gE, Bool.and_eq_true] at h
    obtain ⟨hk, h1, h2⟩ := h
    have hl := inP_dp (!sumK k && sumK (cE l).Kind) (sE (cE l)) (dE l) p (fun q => sE_dp l q h1)
    have hr := inP_dp (sumK (cE r).Kind || (!sumK k && pairK (cE r).Kind)) (sE (cE r)) (dE r) p (fun q => sE_dp r q h2)
    rw [cE_kind] at hl hr
    simp only [cE, cEs, sE, dE, hk, if_true, Wr.dp_app, cE_kind, hl, hr]
    rw [show (!sumK k && sumK l.Kind) = leftB k l.Kind from rfl, show (sumK r.Kind || (!sumK k && pairK r.Kind)) = rightB k r.Kind from rfl]
    simp only [wW, dpB, Bool.false_or]
    rw [Bool.eq_iff_iff]
    simp only [Bool.or_eq_true, Bool.and_eq_true, decide_eq_true_eq]
    omega
  | ⟨k, n, s, a :: b :: c :: l⟩, p, h => by simp only [gE] at h; cases h
theorem deep_rN : ∀ e : r02_Expr, gE e = true → szE (cE e) ≤ 400000000000 → ∀ n, Sn n (szE (cE e)) (r02_deepN n e) ((dE e : Nat) : Int)
  | ⟨k, m, s, []⟩, h, hz, n => by
    cases n with
    | zero => exact .inr ⟨rfl, szE_pos _⟩
    | succ n =>
      refine .inl ?_
      simp only [gE] at h
      have hk : k = 1 ∨ k = 2 := by
        by_cases h1 : k = 1
        · exact .inl h1
        · rw [if_neg (by simpa using h1)] at h
          simp only [Bool.and_eq_true, beq_iff_eq] at h
          exact .inr h.1
      simp only [r02_deepN, two_r, dE]
      rcases hk with rfl | rfl <;> rfl
  | ⟨k, m, s, [x]⟩, h, hz, n => by
    simp only [gE, Bool.and_eq_true, beq_iff_eq] at h
    obtain ⟨rfl, h⟩ := h
    simp only [cE, cEs, szE, szEs] at hz
    have hx := deep_rN x h (by omega)
    have hd := dE_le x
    cases n with
    | zero => exact .inr ⟨rfl, szE_pos _⟩
    | succ n =>
      have e4 : idx [x] 0 = some x := rfl
      simp only [r02_deepN, show ((3 : Int) == 3) = true from rfl, if_true, e4, two_r, Option.bind_eq_bind, Option.bind_some, dE]
      cases hp : pairK x.Kind with
      | true =>
        simp only [if_true]
        refine (Sn.bind (f := fun v => some (IntKind.i64.wrap (2 + v))) (hx n) (.inl ?_)).up.mono (by simp only [cE, cEs, szE, szEs]; omega)
        rw [w64 (by omega) (by omega)]
        simp only [bn, if_true]; refine congrArg some ?_; omega
      | false =>
        simp only [Bool.false_eq_true, if_false]
        refine (Sn.bind (f := fun v => some (IntKind.i64.wrap (1 + v))) (hx n) (.inl ?_)).up.mono (by simp only [cE, cEs, szE, szEs]; omega)
        rw [w64 (by omega) (by omega)]
        simp only [bn, Bool.false_eq_true, if_false]; refine congrArg some ?_; omega
  | ⟨k, m, s, [l, r]⟩, h, hz, n => by
    simp only [gE, Bool.and_eq_true] at h
    obtain ⟨hk, h1, h2⟩ := h
    simp only [cE, cEs, szE, szEs] at hz
    have hl := deep_rN l h1 (by omega)
    have hr := deep_rN r h2 (by omega)
    have hdl := dE_le l
    have hdr := dE_le r
    cases n with
    | zero => exact .inr ⟨rfl, szE_pos _⟩
    | succ n =>
      have h3 : (k == 3) = false := by
        rw [beq_eq_false_iff_ne]; rintro rfl; cases hk
      have e4 : idx [l, r] 0 = some l := rfl
      have e5 : idx [l, r] 1 = some r := rfl
      have eL := left_r (e := ⟨k, m, s, [l, r]⟩) (x := l) hk
      have eR := right_rr (e := ⟨k, m, s, [l, r]⟩) (x := r) hk
      simp only [r02_deepN, h3, Bool.false_eq_true, if_false, e4, e5, two_r, hk, if_true, Option.bind_eq_bind, Option.bind_some, eL, eR, dE]
      refine (Sn.bind (f := _) ((hl n).mono (show szE (cE l) ≤ szE (cE ⟨k, m, s, [l, r]⟩) - 1 by simp only [cE, cEs, szE, szEs]; omega)) (Sn.bind (f := _) ((hr n).mono (show szE (cE r) ≤ szE (cE ⟨k, m, s, [l, r]⟩) - 1 by simp only [cE, cEs, szE, szEs]; omega)) (.inl ?_))).up.mono (by have := szE_pos (cE ⟨k, m, s, [l, r]⟩); omega)
      rw [w64 (n := ((dE l : Nat) : Int) + 1) (by omega) (by omega), w64 (n := ((dE r : Nat) : Int) + 1) (by omega) (by omega)]
      cases leftB k l.Kind <;> cases rightB k r.Kind <;> simp only [bn, if_true, Bool.false_eq_true, if_false] <;> (refine congrArg some ?_; omega)
  | ⟨k, m, s, a :: b :: c :: l⟩, h, hz, n => by simp only [gE] at h; cases h
theorem deep_r {e : r02_Expr} (h : gE e = true) (hz : szE (cE e) ≤ 400000000000) : r02_deep e = some ((dE e : Nat) : Int) := Sn.unf fun n => deep_rN e h hz n
def dC (c : r02_Cond) : Nat := max (dE c.L) (dE c.R)
theorem sC_dp (c : r02_Cond) (p : Int) (h : gC c = true) : (sC (cC c) p).dp = dpB (dC c) p := by
  unfold gC at h
  simp only [Bool.and_eq_true] at h
  unfold sC cC dC
  simp only [Wr.dp_app, sE_dp _ _ h.2.1, sE_dp _ _ h.2.2, h.1, if_true, wW, dpB]
  rw [Bool.eq_iff_iff]
  simp only [Bool.or_eq_true, Bool.and_eq_true, decide_eq_true_eq, Bool.false_eq_true, false_or, or_false]
  omega
/-! ### Statements -/
def mx (x y : Nat × Nat) : Nat × Nat := (max x.1 y.1, max x.2 y.2)
def inr1 (x : Nat × Nat) : Nat × Nat := (x.1 + 1, x.2)
mutual
def dS : r02_Stmt → Nat × Nat
  | .mk k n t e c b l a =>
    if k == 1 || k == 4 then (0, dE e)
    else if k == 2 then mx (1, dC c) (mx (inr1 (dL b)) (inr1 (dL l)))
    else if k == 3 then mx (1, dC c) (inr1 (dL b))
    else if k == 5 then mx (1, 0) (dA a)
    else if k == 6 then (0, dC c)
    else (0, 0)
def dL : List r02_Stmt → Nat × Nat
  | [] => (0, 0)
  | s :: r => mx (dS s) (dL r)
def dA : List r02_Arm → Nat × Nat
  | [] => (0, 0)
  | .mk t v b :: r => mx (inr1 (dL b)) (dA r)
end
/-- What is too deep: blocks, expressions. -/
def dq (d : Nat × Nat) (b : Int) : Bool := dpB d.1 b || decide (24 < d.2)
theorem dpB0 (d : Nat) : dpB d 0 = decide (24 < d) := by
  unfold dpB
  rw [Bool.eq_iff_iff]
  simp only [Bool.and_eq_true, decide_eq_true_eq]
  omega
theorem dq_mx (x y : Nat × Nat) (b : Int) : dq (mx x y) b = (dq x b || dq y b) := by
  unfold dq mx dpB
  rw [Bool.eq_iff_iff]
  simp only [Bool.or_eq_true, Bool.and_eq_true, decide_eq_true_eq]
  omega
theorem inB_dp {f : Int → Wr} {d : Nat × Nat} (b : Int) (h : ∀ q, (f q).dp = dq d q) : (inB f b).dp = dq (inr1 d) b := by
  unfold inB
  simp only [Wr.dp_app, h, wW, wD]
  unfold dq inr1 dpB
  rw [Bool.eq_iff_iff]
  simp only [Bool.or_eq_true, Bool.and_eq_true, decide_eq_true_eq, Bool.false_eq_true, false_or, or_false]
  omega
theorem dq_x (d x : Nat) (b : Int) (hd : d = 0) : dq (d, x) b = decide (24 < x) := by subst hd; unfold dq dpB; simp
theorem dq_1x (x : Nat) (b : Int) : dq (1, x) b = (decide (b + 1 > 24) || decide (24 < x)) := by unfold dq dpB; simp
theorem dq_inr_le (d : Nat × Nat) (b : Int) : (decide (b + 1 > 24) || dq (inr1 d) b) = dq (inr1 d) b := by
  unfold dq inr1 dpB
  rw [Bool.eq_iff_iff]
  simp only [Bool.or_eq_true, Bool.and_eq_true, decide_eq_true_eq]
  omega
mutual
theorem sS_dp : ∀ (s : r02_Stmt) (b : Int), gS s = true → (sS (cS s) b 0).dp = dq (dS s) b
  | .mk k n t e c bo el ar, b, h => by
    simp only [gS] at h
    have hb := fun (g : gL bo = true) => inB_dp (f := fun q => sL (cL bo) q 0) b (fun q => sL_dp bo q g)
    have he := fun (g : gL el = true) => inB_dp (f := fun q => sL (cL el) q 0) b (fun q => sL_dp el q g)
    have ha := sA_dp ar b
    simp only [cS, sS, dS]
    by_cases h1 : k = 1
    · subst h1
      simp only [show ((1 : Int) == 1) = true from rfl, if_true, Bool.true_or, Bool.and_eq_true] at h ⊢
      simp only [Wr.dp_app, sE_dp _ _ h.2, dpB0, dq_x 0 _ _ rfl, wN, wW, Bool.false_or, Bool.or_false]
    have h1' : (k == 1) = false := by simpa using h1
    by_cases h2 : k = 2
    · subst h2
      simp only [show ((2 : Int) == 1) = false from rfl, show ((2 : Int) == 4) = false from rfl, show ((2 : Int) == 2) = true from rfl, if_true, Bool.false_eq_true, if_false, Bool.or_self, Bool.and_eq_true] at h ⊢
      obtain ⟨g1, g2, g3⟩ := h
      simp only [Wr.dp_app, sC_dp _ _ g1, dpB0, hb g2, dq_mx, dq_1x, wW, Bool.false_or]
      cases el with
      | nil =>
        simp only [cL, List.isEmpty_nil, if_true, Wr.nil, Bool.or_false, dL]
        rw [← dq_inr_le (dL bo) b]
        have : dq (inr1 (0, 0)) b = decide (b + 1 > 24) := by show dq (1, 0) b = _; rw [dq_1x]; simp
        rw [this]
        cases decide (b + 1 > 24) <;> cases decide (24 < dC c) <;> cases dq (inr1 (dL bo)) b <;> rfl
      | cons x r =>
        have hne : (cL (x :: r)).isEmpty = false := by simp only [cL]; rfl
        rw [hne]
        simp only [Bool.false_eq_true, if_false, Wr.dp_app, he g3, wW, Bool.false_or]
        rw [← dq_inr_le (dL bo) b]
        cases decide (b + 1 > 24) <;> cases decide (24 < dC c) <;> cases dq (inr1 (dL bo)) b <;> cases dq (inr1 (dL (x :: r))) b <;> rfl
    have h2' : (k == 2) = false := by simpa using h2
    by_cases h3 : k = 3
    · subst h3
      simp only [show ((3 : Int) == 1) = false from rfl, show ((3 : Int) == 4) = false from rfl, show ((3 : Int) == 2) = false from rfl, show ((3 : Int) == 3) = true from rfl, if_true, Bool.false_eq_true, if_false, Bool.or_self, Bool.and_eq_true] at h ⊢
      obtain ⟨g1, g2⟩ := h
      simp only [Wr.dp_app, sC_dp _ _ g1, dpB0, hb g2, dq_mx, dq_1x, wW, Bool.false_or]
      rw [← dq_inr_le (dL bo) b]
      cases decide (b + 1 > 24) <;> cases decide (24 < dC c) <;> cases dq (inr1 (dL bo)) b <;> rfl
    have h3' : (k == 3) = false := by simpa using h3
    by_cases h4 : k = 4
    · subst h4
      simp only [show ((4 : Int) == 1) = false from rfl, show ((4 : Int) == 2) = false from rfl, show ((4 : Int) == 3) = false from rfl, show ((4 : Int) == 4) = true from rfl, if_true, Bool.false_eq_true, if_false, Bool.or_true, Bool.and_eq_true] at h ⊢
      simp only [Wr.dp_app, sE_dp _ _ h.2.2, dpB0, dq_x 0 _ _ rfl, wN, wW, Bool.false_or, Bool.or_false]
    have h4' : (k == 4) = false := by simpa using h4
    by_cases h5 : k = 5
    · subst h5
      simp only [show ((5 : Int) == 1) = false from rfl, show ((5 : Int) == 2) = false from rfl, show ((5 : Int) == 3) = false from rfl, show ((5 : Int) == 4) = false from rfl, show ((5 : Int) == 5) = true from rfl, if_true, Bool.false_eq_true, if_false, Bool.or_self, Bool.and_eq_true] at h ⊢
      obtain ⟨⟨g1, g2⟩, g3⟩ := h
      have hA := ha g3
      simp only [Wr.dp_app, hA, dq_mx, dq_1x, wN, wW, wM, Bool.false_or, Bool.or_false]
      cases ar with
      | nil => cases g2
      | cons x r =>
        cases x with
        | mk t v bo' =>
          simp only [dA, dq_mx]
          rw [← dq_inr_le (dL bo') b]
          have h0 : decide ((24 : Nat) < 0) = false := rfl
          rw [h0]
          cases decide (b + 1 > 24) <;> cases dq (inr1 (dL bo')) b <;> cases dq (dA r) b <;> rfl
    have h5' : (k == 5) = false := by simpa using h5
    by_cases h6 : k = 6
    · subst h6
      simp only [show ((6 : Int) == 1) = false from rfl, show ((6 : Int) == 2) = false from rfl, show ((6 : Int) == 3) = false from rfl, show ((6 : Int) == 4) = false from rfl, show ((6 : Int) == 5) = false from rfl, show ((6 : Int) == 6) = true from rfl, if_true, Bool.false_eq_true, if_false, Bool.or_self] at h ⊢
      simp only [Wr.dp_app, sC_dp _ _ h, dpB0, dq_x 0 _ _ rfl, wW, Bool.false_or, Bool.or_false]
    have h6' : (k == 6) = false := by simpa using h6
    simp only [h1', h2', h3', h4', h5', h6', Bool.false_eq_true, if_false, Bool.or_self]
    split <;> simp [wW, wN, wM, dq, dpB]
theorem sL_dp : ∀ (l : List r02_Stmt) (b : Int), gL l = true → (sL (cL l) b 0).dp = dq (dL l) b
  | [], b, h => by simp only [cL, sL, dL]; simp [Wr.nil, dq, dpB]
  | s :: r, b, h => by
    simp only [gL, Bool.and_eq_true] at h
    have h1 := sS_dp s b h.1
    have h2 := sL_dp r b h.2
    simp only [cL, sL, dL, Wr.dp_app, h1, h2, dq_mx]
theorem sA_dp : ∀ (l : List r02_Arm) (b : Int), gA l = true → (sA (cA l) b 0).dp = dq (dA l) b
  | [], b, h => by simp only [cA, sA, dA]; simp [Wr.nil, dq, dpB]
  | .mk t v bo :: r, b, h => by
    simp only [gA, Bool.and_eq_true] at h
    have h1 := fun q => sL_dp bo q h.1.2.2
    have h2 := sA_dp r b h.2
    have hB := inB_dp (f := fun q => sL (cL bo) q 0) b h1
    simp only [cA, sA, dA, Wr.dp_app, hB, h2, dq_mx, wN, wW, Bool.false_or]
end
mutual
theorem dS_le : ∀ s : r02_Stmt, (dS s).1 ≤ szS (cS s) ∧ (dS s).2 ≤ 2 * szS (cS s)
  | .mk k n t e c bo el ar => by
    have h1 := dL_le bo
    have h2 := dL_le el
    have h3 := dA_le ar
    have h4 := dE_le e
    have h5 := dE_le c.L
    have h6 := dE_le c.R
    have hz : szC (cC c) = 1 + szE (cE c.L) + szE (cE c.R) := rfl
    rw [cS_eq, hz]
    simp only [dS]
    have hc : dC c = max (dE c.L) (dE c.R) := rfl
    split
    · simp only; omega
    · split
      · simp only [mx, inr1]; omega
      · split
        · simp only [mx, inr1]; omega
        · split
          · simp only [mx]; omega
          · split
            · simp only; omega
            · simp only; omega
theorem dL_le : ∀ l : List r02_Stmt, (dL l).1 ≤ szL (cL l) ∧ (dL l).2 ≤ 2 * szL (cL l)
  | [] => by simp only [dL]; omega
  | s :: r => by
    have h1 := dS_le s
    have h2 := dL_le r
    simp only [dL, cL, szL, mx]; omega
theorem dA_le : ∀ l : List r02_Arm, (dA l).1 ≤ szA (cA l) ∧ (dA l).2 ≤ 2 * szA (cA l)
  | [] => by simp only [dA]; omega
  | .mk t v b :: r => by
    have h1 := dL_le b
    have h2 := dA_le r
    simp only [dA, cA, szA, mx, inr1]; omega
end
theorem mx_assoc (x y z : Nat × Nat) : mx (mx x y) z = mx x (mx y z) := by simp only [mx, Nat.max_assoc]
theorem mx_zero (x : Nat × Nat) : mx x (0, 0) = x := by simp [mx]
def foldD : List (List r02_Stmt) → Nat × Nat
  | [] => (0, 0)
  | l :: r => mx (inr1 (dL l)) (foldD r)
/-- The loop over inner blocks. -/
theorem inner_loop {F : List r02_Stmt → Option (Int × Int)} {body : Int × Int × Int → Option (Sum (Int × Int × Int) (Sum (Int × Int) (Int × Int)))} {v : List (List r02_Stmt)} {n H : Nat}
    (hb : ∀ x, body x = if (decide (x.2.2 < (v.length : Int))) then (idx v x.2.2 >>= fun v7 => F v7 >>= fun v8 => some (.inl ((max x.1 (IntKind.i64.wrap (v8.1 + 1))), (max x.2.1 v8.2), (IntKind.i64.wrap (x.2.2 + 1))))) else (some (.inr (.inr (x.1, x.2.1)))))
    (hlen : v.length ≤ 400000000000) (hF : ∀ l ∈ v, Sn n H (F l) (((dL l).1 : Nat), ((dL l).2 : Nat)) ∧ (dL l).1 ≤ 800000000000) :
    ∀ (m : List (List r02_Stmt)) (i : Nat) (d : Nat × Nat), v.drop i = m → i ≤ v.length → Sn n H (iter body ((d.1 : Nat), (d.2 : Nat), (i : Int))) (.inr (((mx d (foldD m)).1 : Nat), ((mx d (foldD m)).2 : Nat))) := by
  intro m
  induction m with
  | nil =>
    intro i d hd hi
    have : i = v.length := by have := List.drop_eq_nil_iff.1 hd; omega
    subst this
    refine .inl ?_
    rw [iter_out (r := .inr ((d.1 : Nat), (d.2 : Nat))) (by rw [hb]; rw [if_neg (by simp)])]
    simp only [foldD, mx_zero]
  | cons x m ih =>
    intro i d hd hi
    have hlt : i < v.length := by
      refine Nat.lt_of_not_le fun h => ?_
      rw [List.drop_of_length_le h] at hd; cases hd
    rw [List.drop_eq_getElem_cons hlt] at hd
    injection hd with h1 h2
    have hi2 : idx v (i : Int) = some x := by rw [idx_ok hlt, h1]
    have hm : x ∈ v := by rw [← h1]; exact List.getElem_mem hlt
    obtain ⟨f1, f2⟩ := hF x hm
    have h3 : Sn n H (body ((d.1 : Nat), (d.2 : Nat), (i : Int))) (.inl (((mx d (inr1 (dL x))).1 : Nat), ((mx d (inr1 (dL x))).2 : Nat), ((i + 1 : Nat) : Int))) := by
      rw [hb, if_pos (by simpa using hlt)]
      simp only [hi2, Option.bind_eq_bind, Option.bind_some, wsucc (i := i) (by omega)]
      refine Sn.bind (f := _) f1 (.inl ?_)
      rw [w64 (by omega) (by omega)]
      refine congrArg some (congrArg Sum.inl ?_)
      simp only [mx, inr1, Prod.mk.injEq]
      refine ⟨by omega, by omega, trivial⟩
    have h4 := ih (i + 1) (mx d (inr1 (dL x))) h2 hlt
    rw [iter_eq]
    refine Sn.bind (f := _) h3 ?_
    simp only [foldD, ← mx_assoc]
    exact h4
theorem foldD_arms : ∀ ar : List r02_Arm, foldD (ar.map (·.Body)) = dA ar
  | [] => by simp only [List.map_nil, foldD, dA]
  | .mk t v b :: r => by
    have := foldD_arms r
    simp only [List.map_cons, foldD, dA, this]
    rfl
theorem bodies_loop {F : List r02_Stmt → Option (Int × Int)} {v1 : r02_Stmt} (hlen : v1.Arms.length ≤ 400000000000) : iter (r02_blocks_l7 F v1) (0, []) = some (.inr (v1.Arms.map (·.Body))) :=
  maploop_f (body := r02_blocks_l7 F v1) (·.Body) v1.Arms hlen (fun i x acc hi hx hm ha hw => by
    unfold r02_blocks_l7
    rw [if_pos (by simpa using hi)]
    simp only [hx, Option.bind_eq_bind, Option.bind_some, hw]
    rw [app_ok (by simp; omega)]
    rfl) (fun acc => by unfold r02_blocks_l7; rw [if_neg (by simp)])
theorem blocks_rN : ∀ (N : Nat) (l : List r02_Stmt), szL (cL l) ≤ N → N ≤ 400000000000 → gL l = true → okL (cL l) → ∀ n, Sn n (szL (cL l)) (r02_blocksN n l) ((((dL l).1 : Nat) : Int), (((dL l).2 : Nat) : Int)) := by
  intro N
  induction N with
  | zero => intro l hl; have := szL_pos (cL l); omega
  | succ N ih =>
    intro l hl hN hg ho n
    cases n with
    | zero => exact .inr ⟨rfl, szL_pos _⟩
    | succ n =>
      have hll := cL_len l
      have hp := szL_pos (cL l)
      have main : ∀ (m : List r02_Stmt) (i : Nat) (d : Nat × Nat), l.drop i = m → i ≤ l.length → Sn n (szL (cL l) - 1) (iter (r02_blocks_l1 (r02_blocksN n) l) ((d.1 : Nat), (d.2 : Nat), (i : Int))) (.inr (((mx d (dL m)).1 : Nat), ((mx d (dL m)).2 : Nat))) := by
        intro m
        induction m with
        | nil =>
          intro i d hd hi
          have : i = l.length := by have := List.drop_eq_nil_iff.1 hd; omega
          subst this
          refine .inl ?_
          rw [iter_out (r := .inr ((d.1 : Nat), (d.2 : Nat))) (by unfold r02_blocks_l1; rw [if_neg (by simp)])]
          simp only [dL, mx_zero]
        | cons x m ihm =>
          intro i d hd hi
          have hlt : i < l.length := by
            refine Nat.lt_of_not_le fun h => ?_
            rw [List.drop_of_length_le h] at hd; cases hd
          rw [List.drop_eq_getElem_cons hlt] at hd
          injection hd with h1 h2
          have hi2 : idx l (i : Int) = some x := by rw [idx_ok hlt, h1]
          have hm : x ∈ l := by rw [← h1]; exact List.getElem_mem hlt
          obtain ⟨hoS, hz⟩ := okL_memc ho hm
          have hgS : gS x = true := by rw [gL_all] at hg; exact List.all_eq_true.1 hg x hm
          have h3 : Sn n (szL (cL l) - 1) (r02_blocks_l1 (r02_blocksN n) l ((d.1 : Nat), (d.2 : Nat), (i : Int))) (.inl (((mx d (dS x)).1 : Nat), ((mx d (dS x)).2 : Nat), ((i + 1 : Nat) : Int))) := by
            obtain ⟨k, nm, tg, e, c, bo, el, ar⟩ := x
            rw [cS_eq] at hz
            simp only [cS, okS] at hoS
            obtain ⟨on, ot, oe, oc, ob, oel, oar⟩ := hoS
            simp only [gS] at hgS
            have hzc : szC (cC c) = 1 + szE (cE c.L) + szE (cE c.R) := rfl
            have p1 := szL_pos (cL bo)
            have p2 := szL_pos (cL el)
            have p3 := szA_pos (cA ar)
            have dl1 := dL_le bo
            have dl2 := dL_le el
            have fin : ∀ q : Nat × Nat, (some (Sum.inl (((q.1 : Nat) : Int), ((q.2 : Nat) : Int), IntKind.i64.wrap ((i : Int) + 1))) : Option (Sum (Int × Int × Int) (Sum (Int × Int) (Int × Int)))) = some (.inl (((q.1 : Nat) : Int), ((q.2 : Nat) : Int), ((i + 1 : Nat) : Int))) := fun q => by rw [wsucc (i := i) (by omega)]
            have u3 : iter (r02_blocks_l3 (r02_blocksN n)) () = some (.inr ()) := iter_out (by rfl)
            have u4 : iter (r02_blocks_l4 (r02_blocksN n)) () = some (.inr ()) := iter_out (by rfl)
            have u9 : iter (r02_blocks_l9 (r02_blocksN n)) () = some (.inr ()) := iter_out (by rfl)
            have u10 : iter (r02_blocks_l10 (r02_blocksN n)) () = some (.inr ()) := iter_out (by rfl)
            unfold r02_blocks_l1
            rw [if_pos (by simpa using hlt), hi2]
            simp only [Option.bind_eq_bind, Option.bind_some, u3, u4, u9, u10, Sum.elim_inr]
            dsimp only [r02_Stmt.Kind, r02_Stmt.E, r02_Stmt.C, r02_Stmt.Body, r02_Stmt.Else]
            by_cases h1 : k = 1
            · subst h1
              simp only [show ((1 : Int) == 1) = true from rfl, if_true, Bool.and_eq_true] at hgS
              refine .inl ?_
              simp only [Int.reduceBEq, if_true, Bool.false_eq_true, if_false]
              rw [deep_r hgS.2 (by omega)]
              simp only [Option.bind_some]
              rw [wsucc (i := i) (by omega)]
              simp only [dS, show ((1 : Int) == 1) = true from rfl, Bool.true_or, if_true, mx]
              refine congrArg some (congrArg Sum.inl ?_)
              simp only [Prod.mk.injEq]; refine ⟨by omega, by omega, trivial⟩
            have z1 : (k == 1) = false := by simpa using h1
            simp only [z1, Bool.false_eq_true, if_false]
            by_cases h4 : k = 4
            · subst h4
              simp only [show ((4 : Int) == 1) = false from rfl, show ((4 : Int) == 2) = false from rfl, show ((4 : Int) == 3) = false from rfl, show ((4 : Int) == 4) = true from rfl, if_true, Bool.false_eq_true, if_false, Bool.and_eq_true] at hgS
              refine .inl ?_
              simp only [Int.reduceBEq, if_true, Bool.false_eq_true, if_false]
              rw [deep_r hgS.2.2 (by omega)]
              simp only [Option.bind_some]
              rw [wsucc (i := i) (by omega)]
              simp only [dS, show ((4 : Int) == 4) = true from rfl, Bool.or_true, if_true, mx]
              refine congrArg some (congrArg Sum.inl ?_)
              simp only [Prod.mk.injEq]; refine ⟨by omega, by omega, trivial⟩
            have z4 : (k == 4) = false := by simpa using h4
            simp only [z4, Bool.false_eq_true, if_false]
            by_cases h2 : k = 2
            · subst h2
              simp only [show ((2 : Int) == 1) = false from rfl, show ((2 : Int) == 2) = true from rfl, if_true, Bool.false_eq_true, if_false, Bool.and_eq_true] at hgS
              obtain ⟨g1, g2, g3⟩ := hgS
              have gl := g1
              unfold gC at gl
              simp only [Bool.and_eq_true] at gl
              simp only [Int.reduceBEq, if_true, Bool.false_eq_true, if_false]
              rw [app_ok (by simp), deep_r gl.2.1 (by omega), deep_r gl.2.2 (by omega)]
              simp only [Option.bind_some, List.nil_append, Option.bind_assoc]
              have fb := (ih bo (by omega) (by omega) g2 ob n).mono (show szL (cL bo) ≤ szL (cL l) - 1 by omega)
              have fe := (ih el (by omega) (by omega) g3 oel n).mono (show szL (cL el) ≤ szL (cL l) - 1 by omega)
              have lp := inner_loop (F := r02_blocksN n) (body := r02_blocks_l5 (r02_blocksN n) [bo, el]) (v := [bo, el]) (n := n) (H := szL (cL l) - 1) (fun x => rfl) (by simp)
                (fun y hy => by
                  simp only [List.mem_cons, List.not_mem_nil, or_false] at hy
                  rcases hy with rfl | rfl
                  · exact ⟨fb, by omega⟩
                  · exact ⟨fe, by omega⟩) [bo, el] 0 (mx d (1, dC c)) rfl (by omega)
              have est : ((max ((d.1 : Nat) : Int) 1, max (max ((d.2 : Nat) : Int) ((dE c.L : Nat) : Int)) ((dE c.R : Nat) : Int), (0 : Int)) : Int × Int × Int) = ((((mx d (1, dC c)).1 : Nat) : Int), (((mx d (1, dC c)).2 : Nat) : Int), ((0 : Nat) : Int)) := by
                simp only [mx, dC, Prod.mk.injEq]; refine ⟨by omega, by omega, rfl⟩
              rw [est]
              refine Sn.bind (f := _) lp (.inl ?_)
              simp only [Sum.elim_inr, Option.bind_some]
              rw [wsucc (i := i) (by omega)]
              simp only [dS, show ((2 : Int) == 1) = false from rfl, show ((2 : Int) == 4) = false from rfl, show ((2 : Int) == 2) = true from rfl, Bool.or_self, Bool.false_eq_true, if_false, if_true, foldD, mx_zero, mx_assoc]
            have z2 : (k == 2) = false := by simpa using h2
            simp only [z2, Bool.false_eq_true, if_false]
            by_cases h3 : k = 3
            · subst h3
              simp only [show ((3 : Int) == 1) = false from rfl, show ((3 : Int) == 2) = false from rfl, show ((3 : Int) == 3) = true from rfl, if_true, Bool.false_eq_true, if_false, Bool.and_eq_true] at hgS
              obtain ⟨g1, g2⟩ := hgS
              have gl := g1
              unfold gC at gl
              simp only [Bool.and_eq_true] at gl
              simp only [Int.reduceBEq, if_true, Bool.false_eq_true, if_false]
              rw [app_ok (by simp), deep_r gl.2.1 (by omega), deep_r gl.2.2 (by omega)]
              simp only [Option.bind_some, List.nil_append, Option.bind_assoc]
              have fb := (ih bo (by omega) (by omega) g2 ob n).mono (show szL (cL bo) ≤ szL (cL l) - 1 by omega)
              have lp := inner_loop (F := r02_blocksN n) (body := r02_blocks_l6 (r02_blocksN n) [bo]) (v := [bo]) (n := n) (H := szL (cL l) - 1) (fun x => rfl) (by simp)
                (fun y hy => by
                  simp only [List.mem_cons, List.not_mem_nil, or_false] at hy
                  subst hy
                  exact ⟨fb, by omega⟩) [bo] 0 (mx d (1, dC c)) rfl (by omega)
              have est : ((max ((d.1 : Nat) : Int) 1, max (max ((d.2 : Nat) : Int) ((dE c.L : Nat) : Int)) ((dE c.R : Nat) : Int), (0 : Int)) : Int × Int × Int) = ((((mx d (1, dC c)).1 : Nat) : Int), (((mx d (1, dC c)).2 : Nat) : Int), ((0 : Nat) : Int)) := by
                simp only [mx, dC, Prod.mk.injEq]; refine ⟨by omega, by omega, rfl⟩
              rw [est]
              refine Sn.bind (f := _) lp (.inl ?_)
              simp only [Sum.elim_inr, Option.bind_some]
              rw [wsucc (i := i) (by omega)]
              simp only [dS, show ((3 : Int) == 1) = false from rfl, show ((3 : Int) == 4) = false from rfl, show ((3 : Int) == 2) = false from rfl, show ((3 : Int) == 3) = true from rfl, Bool.or_self, Bool.false_eq_true, if_false, if_true, foldD, mx_zero, mx_assoc]
            have z3 : (k == 3) = false := by simpa using h3
            simp only [z3, Bool.false_eq_true, if_false]
            by_cases h5 : k = 5
            · subst h5
              simp only [show ((5 : Int) == 1) = false from rfl, show ((5 : Int) == 2) = false from rfl, show ((5 : Int) == 3) = false from rfl, show ((5 : Int) == 4) = false from rfl, show ((5 : Int) == 5) = true from rfl, if_true, Bool.false_eq_true, if_false, Bool.and_eq_true] at hgS
              obtain ⟨g1, g2⟩ := hgS
              have hal := cA_len ar
              simp only [Int.reduceBEq, if_true, Bool.false_eq_true, if_false]
              rw [bodies_loop (v1 := .mk 5 nm tg e c bo el ar) (by show ar.length ≤ _; omega)]
              simp only [Option.bind_some, Sum.elim_inr, Option.bind_assoc]
              dsimp only [r02_Stmt.Arms]
              have lp := inner_loop (F := r02_blocksN n) (body := r02_blocks_l8 (r02_blocksN n) (ar.map (·.Body))) (v := ar.map (·.Body)) (n := n) (H := szL (cL l) - 1) (fun x => rfl) (by rw [List.length_map]; omega)
                (fun y hy => by
                  obtain ⟨a, ha, rfl⟩ := List.mem_map.1 hy
                  obtain ⟨_, _, o3, z3⟩ := okA_memc oar a ha
                  have ga : gAr a = true := by rw [gA_all] at g2; exact List.all_eq_true.1 g2 a ha
                  unfold gAr at ga
                  simp only [Bool.and_eq_true] at ga
                  have := dL_le a.Body
                  exact ⟨(ih a.Body (by omega) (by omega) ga.2.2 o3 n).mono (by omega), by omega⟩) _ 0 (mx d (1, 0)) rfl (by omega)
              have est : ((max ((d.1 : Nat) : Int) 1, ((d.2 : Nat) : Int), (0 : Int)) : Int × Int × Int) = ((((mx d (1, 0)).1 : Nat) : Int), (((mx d (1, 0)).2 : Nat) : Int), ((0 : Nat) : Int)) := by
                simp only [mx, Prod.mk.injEq]; refine ⟨by omega, by omega, rfl⟩
              rw [est]
              refine Sn.bind (f := _) lp (.inl ?_)
              simp only [Sum.elim_inr, Option.bind_some]
              rw [wsucc (i := i) (by omega), List.drop_zero, foldD_arms]
              simp only [dS, show ((5 : Int) == 1) = false from rfl, show ((5 : Int) == 4) = false from rfl, show ((5 : Int) == 2) = false from rfl, show ((5 : Int) == 3) = false from rfl, show ((5 : Int) == 5) = true from rfl, Bool.or_self, Bool.false_eq_true, if_false, if_true, mx_assoc]
            have z5 : (k == 5) = false := by simpa using h5
            simp only [z5, Bool.false_eq_true, if_false]
            by_cases h6 : k = 6
            · subst h6
              simp only [show ((6 : Int) == 1) = false from rfl, show ((6 : Int) == 2) = false from rfl, show ((6 : Int) == 3) = false from rfl, show ((6 : Int) == 4) = false from rfl, show ((6 : Int) == 5) = false from rfl, show ((6 : Int) == 6) = true from rfl, if_true, Bool.false_eq_true, if_false] at hgS
              have gl := hgS
              unfold gC at gl
              simp only [Bool.and_eq_true] at gl
              refine .inl ?_
              simp only [Int.reduceBEq, if_true, Bool.false_eq_true, if_false]
              rw [deep_r gl.2.1 (by omega), deep_r gl.2.2 (by omega)]
              simp only [Option.bind_some]
              rw [wsucc (i := i) (by omega)]
              simp only [dS, show ((6 : Int) == 1) = false from rfl, show ((6 : Int) == 4) = false from rfl, show ((6 : Int) == 2) = false from rfl, show ((6 : Int) == 3) = false from rfl, show ((6 : Int) == 5) = false from rfl, show ((6 : Int) == 6) = true from rfl, Bool.or_self, Bool.false_eq_true, if_false, if_true, mx, dC]
              refine congrArg some (congrArg Sum.inl ?_)
              simp only [Prod.mk.injEq]; refine ⟨by omega, by omega, trivial⟩
            have z6 : (k == 6) = false := by simpa using h6
            simp only [z6, Bool.false_eq_true, if_false]
            refine .inl ?_
            simp only [Option.bind_some]
            rw [wsucc (i := i) (by omega)]
            simp only [dS, mx]
            have q1 : (k == 1) = false := by simpa using h1
            have q2 : (k == 2) = false := by simpa using h2
            have q3 : (k == 3) = false := by simpa using h3
            have q4 : (k == 4) = false := by simpa using h4
            have q5 : (k == 5) = false := by simpa using h5
            have q6 : (k == 6) = false := by simpa using h6
            simp only [q1, q2, q3, q4, q5, q6, Bool.or_self, Bool.false_eq_true, if_false]
            refine congrArg some (congrArg Sum.inl ?_)
            simp only [Prod.mk.injEq]; refine ⟨by omega, by omega, trivial⟩
          have h4 := ihm (i + 1) (mx d (dS x)) h2 hlt
          rw [iter_eq]
          refine Sn.bind (f := _) h3 ?_
          simp only [dL, ← mx_assoc]
          exact h4
      have h0 := main l 0 (0, 0) rfl (by omega)
      have e0 : mx (0, 0) (dL l) = dL l := by simp [mx]
      rw [e0] at h0
      have t2 := (Sn.bind (f := Sum.elim (fun _ => none) (fun j1 => some (j1.1, j1.2))) h0 (t := ((((dL l).1 : Nat) : Int), (((dL l).2 : Nat) : Int))) (.inl rfl)).up
      exact t2.mono (by omega)
theorem blocks_r {l : List r02_Stmt} (hg : gL l = true) (ho : okL (cL l)) (h : szL (cL l) ≤ 400000000000) : r02_blocks l = some ((((dL l).1 : Nat) : Int), (((dL l).2 : Nat) : Int)) := Sn.unf fun n => blocks_rN _ l (Nat.le_refl _) h hg ho n
end Go.Proofs.YtaaihamelknhdaaGreatDoor.Abs.Wri
/- Of the reference: the words are those that the writer puts. -/
namespace Go.Proofs.YtaaihamelknhdaaGreatDoor.Abs.Wri
open Go Go.RowKit
set_option linter.unusedVariables false
set_option linter.unusedSimpArgs false
/-! ### Numbers -/
theorem quo10 (u : Nat) (h : u ≤ 9223372036854775807) : quo .i64 (u : Int) 10 = some ((u / 10 : Nat) : Int) := by
  unfold quo
  rw [if_neg (by omega)]
  have e : (u : Int).tdiv 10 = ((u / 10 : Nat) : Int) := by rw [Int.tdiv_eq_ediv_of_nonneg (by omega)]; simp
  rw [e, w64 (by omega) (by omega)]
theorem rem10 (u : Nat) : rem (u : Int) 10 = some ((u % 10 : Nat) : Int) := by
  unfold rem
  rw [if_neg (by omega)]
  have e : (u : Int).tmod 10 = ((u % 10 : Nat) : Int) := by rw [Int.tmod_eq_emod_of_nonneg (by omega)]; simp
  rw [e]
theorem digitB (u : Nat) : strOfNums [IntKind.u8.wrap (IntKind.i64.wrap (48 + ((u % 10 : Nat) : Int)))] = bA [UInt8.ofNat (48 + u % 10)] := by
  rw [w64 (by omega) (by omega), w8u (by omega) (by omega)]
  show ByteArray.mk [UInt8.ofNat ((48 + ((u % 10 : Nat) : Int))).toNat].toArray = _
  rw [show ((48 + ((u % 10 : Nat) : Int))).toNat = 48 + u % 10 by omega]
  rfl
theorem ne_emptyB (c : UInt8) (s : List UInt8) : ((bA (c :: s)).toList == (ByteArray.mk #[]).toList) = false := by
  have e1 : ∀ l, (bA l).toList = l := fun l => by rw [Go.ByteArray.toList_eq]; rfl
  have e2 : (ByteArray.mk #[]).toList = [] := e1 []
  rw [e1, e2]; rfl
section
variable {F : r02_Expr → Option (List ByteArray)} {G : r02_Expr → Bool → Option (List ByteArray)}
theorem dig_body0 {c : UInt8} {s : List UInt8} : r02_exprWords_l1 F G (bA (c :: s), 0) = some (.inr (.inr (bA (c :: s)))) := by
  unfold r02_exprWords_l1
  show ((if decide ((0 : Int) > 0) = true then some true else some ((bA (c :: s)).toList == (ByteArray.mk #[]).toList)) >>= _) = _
  rw [if_neg (by decide), ne_emptyB, sb]
  rfl
theorem dig_body1 {u : Nat} {s : List UInt8} (hu : u ≤ 9223372036854775807) (hs : s.length ≤ 1000) (h : 0 < u ∨ s = []) : r02_exprWords_l1 F G (bA s, (u : Int)) = some (.inl (bA (UInt8.ofNat (48 + u % 10) :: s), ((u / 10 : Nat) : Int))) := by
  have hc : (if decide ((u : Int) > 0) = true then some true else some ((bA s).toList == (ByteArray.mk #[]).toList)) = some true := by
    rcases h with h | rfl
    · rw [if_pos (by simpa using h)]
    · split
      · rfl
      · exact congrArg some (eqT _)
  unfold r02_exprWords_l1
  simp only [hc, sb, if_true, rem10, quo10 u hu, digitB]
  rw [scat_bA (by simp; omega)]
  rfl
theorem dig_it : ∀ (k u : Nat) (s : List UInt8), u < 10 ^ k → u ≤ 9223372036854775807 → s.length + k ≤ 1000 → (0 < u ∨ s = []) → iter (r02_exprWords_l1 F G) (bA s, (u : Int)) = some (.inr (bA (Lib.decDigits u ++ s)))
  | 0, u, s, h0, hu, hl, h => by
    have : u = 0 := by simpa using h0
    subst this
    rcases h with h | rfl
    · omega
    · rw [iter_eq, dig_body1 (u := 0) (by omega) (by simp) (.inr rfl)]
      show iter (r02_exprWords_l1 F G) (_, 0) = _
      rw [iter_eq, dig_body0]
      rw [Lib.decDigits, dif_pos (by omega)]
      rfl
  | k + 1, u, s, h0, hu, hl, h => by
    rw [iter_eq, dig_body1 hu (by omega) h]
    show iter (r02_exprWords_l1 F G) (_, ((u / 10 : Nat) : Int)) = _
    by_cases hb : u < 10
    · rw [show u / 10 = 0 by omega]
      show iter (r02_exprWords_l1 F G) (_, 0) = _
      rw [iter_eq, dig_body0, Lib.decDigits, dif_pos hb, show u % 10 = u by omega]
      rfl
    · rw [dig_it k (u / 10) _ (by rw [Nat.pow_succ] at h0; omega) (by omega) (by simp; omega) (.inl (by omega))]
      rw [Lib.decDigits.eq_def u, dif_neg hb]
      simp
theorem dig_f {n : Int} (h : numOk n = true) : iter (r02_exprWords_l1 F G) (ByteArray.mk #[], n) = some (.inr (itoaB n)) := by
  unfold numOk at h
  simp only [Bool.and_eq_true, decide_eq_true_eq] at h
  have := dig_it (F := F) (G := G) 20 n.toNat [] (by have : (10 : Nat) ^ 20 = 100000000000000000000 := by decide
                                                     omega) (by omega) (by simp) (.inr rfl)
  rw [List.append_nil, show ((n.toNat : Nat) : Int) = n by omega] at this
  show iter (r02_exprWords_l1 F G) (bA [], n) = _
  rw [this]
  unfold itoaB Lib.itoa
  rw [if_neg (by omega)]
  rfl
end
/-! ### Expressions -/
def inW (m : Bool) (w : List ByteArray) : List ByteArray := if m then (ByteArray.mk #[40]) :: w ++ [ByteArray.mk #[41]] else w
theorem inP_ws (m : Bool) (f : Int → Wr) (p : Int) (w : List ByteArray) (h : ∀ q, (f q).ws = w) : (inP m f p).ws = inW m w := by
  unfold inP inW
  cases m <;> simp [wW, wD, h]
theorem sE_ws : ∀ (e : ast_Expr) (p q : Int), (sE e p).ws = (sE e q).ws
  | ⟨k, n, s, []⟩, p, q => by simp only [sE]
  | ⟨k, n, s, [x]⟩, p, q => by
    have hx := sE_ws x
    simp only [sE]
    split
    · simp only [Wr.ws_app, inP_ws _ _ _ (sE x 0).ws (fun q => hx q 0)]
      simp [wW, wD]
    · rfl
  | ⟨k, n, s, [l, r]⟩, p, q => by
    have hl := sE_ws l
    have hr := sE_ws r
    simp only [sE]
    split
    · simp only [Wr.ws_app, inP_ws _ _ _ (sE l 0).ws (fun q => hl q 0), inP_ws _ _ _ (sE r 0).ws (fun q => hr q 0)]
    · rfl
  | ⟨k, n, s, a :: b :: c :: l⟩, p, q => by simp only [sE]
def eW (e : r02_Expr) : List ByteArray := (sE (cE e) 0).ws
theorem eW_len (e : r02_Expr) : (eW e).length ≤ 5 * szE (cE e) := sE_len _ _
theorem inW_len (m : Bool) (w : List ByteArray) : (inW m w).length ≤ w.length + 2 := by unfold inW; split <;> simp
theorem app16 {a b : List ByteArray} (h : a.length + b.length ≤ 8000000000000) : app 16 a b = some (a ++ b) := app_ok (by omega)
theorem in_rN {e : r02_Expr} {m : Bool} {n h : Nat} (k : ∀ n, Sn n h (r02_exprWordsN n e) (eW e)) (hz : szE (cE e) ≤ 400000000000) : Sn n (h + 1) (r02_inN n e m) (inW m (eW e)) := by
  cases n with
  | zero => exact .inr ⟨rfl, by omega⟩
  | succ n =>
    have hl := eW_len e
    simp only [r02_inN, Option.bind_eq_bind]
    refine (Sn.bind (f := _) (k n) (.inl ?_)).up
    cases m with
    | false => rfl
    | true =>
      simp only [if_true]
      rw [app16 (by simp; omega)]
      simp only [Option.bind_some]
      rw [app16 (by simp; omega)]
      rfl
theorem exprWords_rN : ∀ e : r02_Expr, gE e = true → szE (cE e) ≤ 400000000000 → ∀ n, Sn n (2 * szE (cE e)) (r02_exprWordsN n e) (eW e)
  | ⟨k, m, s, []⟩, h, hz, n => by
    cases n with
    | zero => exact .inr ⟨rfl, by have := szE_pos (cE ⟨k, m, s, []⟩); omega⟩
    | succ n =>
      refine .inl ?_
      simp only [gE] at h
      simp only [r02_exprWordsN, eW, cE, cEs, sE, wLeaf]
      by_cases h1 : k = 1
      · subst h1
        rw [if_pos (by decide)] at h
        rw [if_pos (by decide), dig_f h]
        rfl
      · rw [if_neg (by simpa using h1)] at h
        simp only [Bool.and_eq_true, beq_iff_eq] at h
        obtain ⟨rfl, h2⟩ := h
        rfl
  | ⟨k, m, s, [x]⟩, h, hz, n => by
    simp only [gE, Bool.and_eq_true, beq_iff_eq] at h
    obtain ⟨rfl, h⟩ := h
    simp only [cE, cEs, szE, szEs] at hz
    have hx := exprWords_rN x h (by omega)
    have hl := eW_len x
    have hl2 := inW_len (pairK x.Kind) (eW x)
    cases n with
    | zero => exact .inr ⟨rfl, by have := szE_pos (cE ⟨3, m, s, [x]⟩); omega⟩
    | succ n =>
      have e4 : idx [x] 0 = some x := rfl
      simp only [r02_exprWordsN, show ((3 : Int) == 1) = false from rfl, show ((3 : Int) == 2) = false from rfl, show ((3 : Int) == 3) = true from rfl, Bool.false_eq_true, if_false, if_true, e4, two_r, Option.bind_eq_bind, Option.bind_some]
      refine (Sn.bind (f := _) (in_rN (m := pairK x.Kind) (n := n) hx (by omega)) (.inl ?_)).up.mono (by simp only [cE, cEs, szE, szEs]; omega)
      rw [app16 (by simp; omega)]
      refine congrArg some ?_
      simp only [eW, cE, cEs, sE, show ((3 : Int) == 3) = true from rfl, if_true, Wr.ws_app, inP_ws _ _ _ (sE (cE x) 0).ws (fun q => sE_ws _ q 0), cE_kind]
      rfl
  | ⟨k, m, s, [l, r]⟩, h, hz, n => by
    simp only [gE, Bool.and_eq_true] at h
    obtain ⟨hk, h1, h2⟩ := h
    simp only [cE, cEs, szE, szEs] at hz
    have hl := exprWords_rN l h1 (by omega)
    have hr := exprWords_rN r h2 (by omega)
    have ll := eW_len l
    have lr := eW_len r
    have ll2 := inW_len (leftB k l.Kind) (eW l)
    have lr2 := inW_len (rightB k r.Kind) (eW r)
    cases n with
    | zero => exact .inr ⟨rfl, by have := szE_pos (cE ⟨k, m, s, [l, r]⟩); omega⟩
    | succ n =>
      have q1 : (k == 1) = false := by rw [beq_eq_false_iff_ne]; rintro rfl; cases hk
      have q2 : (k == 2) = false := by rw [beq_eq_false_iff_ne]; rintro rfl; cases hk
      have q3 : (k == 3) = false := by rw [beq_eq_false_iff_ne]; rintro rfl; cases hk
      have e4 : idx [l, r] 0 = some l := rfl
      have e5 : idx [l, r] 1 = some r := rfl
      have eL := left_r (e := ⟨k, m, s, [l, r]⟩) (x := l) hk
      have eR := right_rr (e := ⟨k, m, s, [l, r]⟩) (x := r) hk
      simp only [r02_exprWordsN, q1, q2, q3, Bool.false_eq_true, if_false, e4, e5, Option.bind_eq_bind, Option.bind_some, eL, eR, sign_idx hk]
      have hH : ∀ z : Nat, z + 1 ≤ 2 * szE (cE ⟨k, m, s, [l, r]⟩) - 1 → z + 1 ≤ 2 * szE (cE ⟨k, m, s, [l, r]⟩) - 1 := fun _ h => h
      refine (Sn.bind (f := _) ((in_rN (m := leftB k l.Kind) (n := n) hl (by omega)).mono (show 2 * szE (cE l) + 1 ≤ 2 * szE (cE ⟨k, m, s, [l, r]⟩) - 1 by simp only [cE, cEs, szE, szEs]; omega)) ?_).up.mono (by have := szE_pos (cE ⟨k, m, s, [l, r]⟩); omega)
      rw [app16 (by simp; omega)]
      simp only [Option.bind_some]
      refine Sn.bind (f := _) ((in_rN (m := rightB k r.Kind) (n := n) hr (by omega)).mono (show 2 * szE (cE r) + 1 ≤ 2 * szE (cE ⟨k, m, s, [l, r]⟩) - 1 by simp only [cE, cEs, szE, szEs]; omega)) (.inl ?_)
      rw [app16 (by simp; omega)]
      refine congrArg some ?_
      simp only [eW, cE, cEs, sE, hk, if_true, Wr.ws_app, inP_ws _ _ _ (sE (cE l) 0).ws (fun q => sE_ws _ q 0), inP_ws _ _ _ (sE (cE r) 0).ws (fun q => sE_ws _ q 0), cE_kind, wW, leftB, rightB, List.append_assoc]
  | ⟨k, m, s, a :: b :: c :: l⟩, h, hz, n => by simp only [gE] at h; cases h
theorem exprWords_r {e : r02_Expr} (h : gE e = true) (hz : szE (cE e) ≤ 400000000000) : r02_exprWords e = some (eW e) := Sn.unf fun n => exprWords_rN e h hz n
theorem digits_r {n : Int} (h : numOk n = true) : r02_digits n = some (itoaB n) := by
  unfold r02_digits
  rw [exprWords_r (e := ⟨1, n, ByteArray.mk #[], []⟩) (by simp only [gE]; simpa using h) (by simp [cE, cEs, szE, szEs])]
  rfl
def cW (c : r02_Cond) : List ByteArray := (sC (cC c) 0).ws
theorem cW_len (c : r02_Cond) : (cW c).length ≤ 5 * szC (cC c) := sC_len _ _
theorem condWords_r {c : r02_Cond} (h : gC c = true) (hz : szC (cC c) ≤ 400000000000) : r02_condWords c = some (cW c) := by
  unfold gC at h
  simp only [Bool.and_eq_true] at h
  have hc : szC (cC c) = 1 + szE (cE c.L) + szE (cE c.R) := rfl
  have l1 := eW_len c.L
  have l2 := eW_len c.R
  unfold r02_condWords
  rw [exprWords_r h.2.1 (by omega), exprWords_r h.2.2 (by omega), op_idx h.1]
  simp only [Option.bind_eq_bind, Option.bind_some]
  rw [app16 (by simp; omega)]
  simp only [Option.bind_some]
  rw [app16 (by simp; omega)]
  simp only [Option.bind_some]
  rw [app16 (by simp; omega)]
  simp only [Option.bind_some]
  rw [app16 (by simp; omega)]
  simp only [Option.bind_some]
  refine congrArg some ?_
  simp only [cW, cC, sC, Wr.ws_app, h.1, if_true, wW, eW, List.append_assoc]
/-! ### Loops that put words -/
def flatG {β : Type} (g : Nat → β → List ByteArray) : Nat → List β → List ByteArray
  | _, [] => []
  | i, x :: r => g i x ++ flatG g (i + 1) r
theorem flatG_W {β : Type} (g : Nat → β → Wr) : ∀ (l : List β) (i : Nat), (flatW g i l).ws = flatG (fun i x => (g i x).ws) i l
  | [], i => rfl
  | x :: r, i => by simp only [flatW, flatG, Wr.ws_app, flatG_W g r (i + 1)]
theorem flatG_congr {β : Type} {g g' : Nat → β → List ByteArray} : ∀ (l : List β) (i : Nat), (∀ i, ∀ x ∈ l, g i x = g' i x) → flatG g i l = flatG g' i l
  | [], i, h => rfl
  | x :: r, i, h => by simp only [flatG, h i x List.mem_cons_self, flatG_congr r (i + 1) fun i y hy => h i y (List.mem_cons_of_mem _ hy)]
theorem flatG_map {β γ : Type} (f : β → γ) (g : Nat → γ → List ByteArray) : ∀ (l : List β) (i : Nat), flatG g i (l.map f) = flatG (fun i x => g i (f x)) i l
  | [], i => rfl
  | x :: r, i => by simp only [List.map_cons, flatG, flatG_map f g r (i + 1)]
theorem wordloop {β X O : Type} {body : X → Option (Sum X O)} {n H : Nat} (l : List β) (g : Nat → β → List ByteArray) (c : β → Nat) (M : Nat) (mk : Nat → List ByteArray → X) (out : List ByteArray → O) (hlen : l.length ≤ 4611686018427387904) (hg : ∀ i x, x ∈ l → (g i x).length ≤ c x)
    (hs : ∀ (i : Nat) x acc, idx l (i : Int) = some x → x ∈ l → i < l.length → IntKind.i64.wrap ((i : Int) + 1) = ((i + 1 : Nat) : Int) → acc.length + c x ≤ M → Sn n H (body (mk i acc)) (.inl (mk (i + 1) (acc ++ g i x))))
    (he : ∀ acc, body (mk l.length acc) = some (.inr (out acc))) :
    ∀ (m : List β) (i : Nat) (acc : List ByteArray), l.drop i = m → i ≤ l.length → acc.length + sumN c m ≤ M → Sn n H (iter body (mk i acc)) (out (acc ++ flatG g i m)) := by
  intro m
  induction m with
  | nil =>
    intro i acc hd hi hM
    have : i = l.length := by have := List.drop_eq_nil_iff.1 hd; omega
    subst this
    exact .inl (by rw [iter_out (he acc)]; simp [flatG])
  | cons x m ih =>
    intro i acc hd hi hM
    have hlt : i < l.length := by
      refine Nat.lt_of_not_le fun h => ?_
      rw [List.drop_of_length_le h] at hd; cases hd
    rw [List.drop_eq_getElem_cons hlt] at hd
    injection hd with h1 h2
    simp only [sumN] at hM
    have hm : x ∈ l := by rw [← h1]; exact List.getElem_mem hlt
    have h3 := hs i x acc (by rw [idx_ok hlt, h1]) hm hlt (wsucc (by omega)) (by omega)
    have hgl := hg i x hm
    have h4 := ih (i + 1) (acc ++ g i x) h2 hlt (by rw [List.length_append]; omega)
    rw [iter_eq]
    refine Sn.bind (f := _) h3 ?_
    simpa [flatG] using h4
theorem wordloop_f {β O : Type} {body : Int × List ByteArray → Option (Sum (Int × List ByteArray) O)} (l : List β) (g : Nat → β → List ByteArray) (c : β → Nat) (M : Nat) (out : List ByteArray → O) (hlen : l.length ≤ 4611686018427387904) (hg : ∀ i x, x ∈ l → (g i x).length ≤ c x)
    (hs : ∀ (i : Nat) x acc, idx l (i : Int) = some x → x ∈ l → i < l.length → IntKind.i64.wrap ((i : Int) + 1) = ((i + 1 : Nat) : Int) → acc.length + c x ≤ M → body ((i : Int), acc) = some (.inl (((i + 1 : Nat) : Int), acc ++ g i x)))
    (he : ∀ acc, body ((l.length : Int), acc) = some (.inr (out acc))) (acc : List ByteArray) (hM : acc.length + sumN c l ≤ M) : iter body (0, acc) = some (out (acc ++ flatG g 0 l)) := by
  rcases wordloop (n := 0) (H := 0) l g c M (fun i acc => ((i : Int), acc)) out hlen hg (fun i x acc h1 h2 h3 h4 h5 => .inl (hs i x acc h1 h2 h3 h4 h5)) he l 0 acc rfl (by omega) hM with h | ⟨_, h⟩
  · exact h
  · omega
/-! ### Statements -/
theorem inB_ws (f : Int → Wr) (b : Int) (w : List ByteArray) (h : ∀ q, (f q).ws = w) : (inB f b).ws = (ByteArray.mk #[123]) :: w ++ [ByteArray.mk #[125]] := by unfold inB; simp [wW, wD, h]
theorem sC_ws (c : ast_Cond) (p q : Int) : (sC c p).ws = (sC c q).ws := by
  unfold sC; simp only [Wr.ws_app, sE_ws c.L p q, sE_ws c.R p q]
mutual
theorem sS_ws : ∀ (s : ast_Stmt) (b p b' p' : Int), (sS s b p).ws = (sS s b' p').ws
  | .mk k n t e c bo el ar, b, p, b', p' => by
    have h1 := fun b p => sL_ws bo b p 0 0
    have h2 := fun b p => sL_ws el b p 0 0
    have h3 := sA_ws ar b p b' p'
    simp only [sS]
    split
    · simp only [Wr.ws_app, sE_ws e p p']
    · split
      · simp only [Wr.ws_app, sC_ws c p p', inB_ws _ _ _ (fun q => h1 q p), inB_ws _ _ _ (fun q => h1 q p')]
        split
        · rfl
        · simp only [Wr.ws_app, inB_ws _ _ _ (fun q => h2 q p), inB_ws _ _ _ (fun q => h2 q p')]
      · split
        · simp only [Wr.ws_app, sC_ws c p p', inB_ws _ _ _ (fun q => h1 q p), inB_ws _ _ _ (fun q => h1 q p')]
        · split
          · simp only [Wr.ws_app, sE_ws e p p']
          · split
            · simp only [Wr.ws_app, h3]
            · split
              · simp only [Wr.ws_app, sC_ws c p p']
              · rfl
theorem sL_ws : ∀ (l : List ast_Stmt) (b p b' p' : Int), (sL l b p).ws = (sL l b' p').ws
  | [], b, p, b', p' => by simp only [sL]
  | s :: r, b, p, b', p' => by simp only [sL, Wr.ws_app, sS_ws s b p b' p', sL_ws r b p b' p']
theorem sA_ws : ∀ (l : List ast_Arm) (b p b' p' : Int), (sA l b p).ws = (sA l b' p').ws
  | [], b, p, b', p' => by simp only [sA]
  | .mk t v bo :: r, b, p, b', p' => by
    have h1 := fun b p => sL_ws bo b p 0 0
    simp only [sA, Wr.ws_app, inB_ws _ _ _ (fun q => h1 q p), inB_ws _ _ _ (fun q => h1 q p'), sA_ws r b p b' p']
end
def stW (s : r02_Stmt) : List ByteArray := (sS (cS s) 0 0).ws
def lW (l : List r02_Stmt) : List ByteArray := (sL (cL l) 0 0).ws
def blW (l : List r02_Stmt) : List ByteArray := (ByteArray.mk #[123]) :: lW l ++ [ByteArray.mk #[125]]
def arW (x : r02_Arm) : List ByteArray := [x.Tag, ByteArray.mk #[40], x.Var, ByteArray.mk #[41]] ++ blW x.Body
theorem lW_len (l : List r02_Stmt) : (lW l).length ≤ 5 * szL (cL l) := sL_len _ _ _
theorem stW_len (l : r02_Stmt) : (stW l).length ≤ 5 * szS (cS l) := sS_len _ _ _
theorem blW_len (l : List r02_Stmt) : (blW l).length ≤ 5 * szL (cL l) + 2 := by have := lW_len l; unfold blW; simp; omega
theorem lW_flat : ∀ (l : List r02_Stmt) (i : Nat), lW l = flatG (fun _ s => stW s) i l
  | [], i => by simp only [lW, cL, sL, flatG]; rfl
  | s :: r, i => by
    have := lW_flat r (i + 1)
    simp only [flatG, ← this]
    simp only [lW, cL, sL, Wr.ws_app, stW]
theorem inB_bl (l : List r02_Stmt) (b p : Int) : (inB (fun q => sL (cL l) q p) b).ws = blW l := inB_ws _ _ _ (fun q => sL_ws _ _ _ 0 0)
theorem sA_flat : ∀ (l : List r02_Arm) (i : Nat), (sA (cA l) 0 0).ws = flatG (fun _ x => arW x) i l
  | [], i => by simp only [cA, sA, flatG]; rfl
  | .mk t v b :: r, i => by
    have := sA_flat r (i + 1)
    simp only [flatG, ← this, cA, sA, Wr.ws_app, inB_bl]
    simp [arW, wN, wW, r02_Arm.Tag, r02_Arm.Var, r02_Arm.Body]
theorem sumN_le {β : Type} {c d : β → Nat} : ∀ {l : List β}, (∀ x ∈ l, c x ≤ d x) → sumN c l ≤ sumN d l
  | [], _ => Nat.le_refl _
  | x :: r, h => by
    have h1 := h x List.mem_cons_self
    have h2 := sumN_le (l := r) fun y hy => h y (List.mem_cons_of_mem _ hy)
    simp only [sumN]; omega
theorem szL_sum : ∀ l : List r02_Stmt, sumN (fun s => szS (cS s)) l + 1 = szL (cL l)
  | [] => by simp only [sumN, cL, szL]
  | s :: r => by have := szL_sum r; simp only [sumN, cL, szL]; omega
theorem szA_sum : ∀ l : List r02_Arm, sumN (fun x => 2 + szL (cL x.Body)) l + 1 = szA (cA l)
  | [] => by simp only [sumN, cA, szA]
  | .mk t v b :: r => by have := szA_sum r; simp only [sumN, cA, szA]; show 2 + szL (cL b) + _ + 1 = _; omega
theorem block_rN {l : List r02_Stmt} {n h : Nat} (k : ∀ n, Sn n h (r02_stmtWordsN n l) (lW l)) (hz : szL (cL l) ≤ 400000000000) : Sn n (h + 1) (r02_blockN n l) (blW l) := by
  cases n with
  | zero => exact .inr ⟨rfl, by omega⟩
  | succ n =>
    have hl := lW_len l
    simp only [r02_blockN, Option.bind_eq_bind]
    refine (Sn.bind (f := _) (k n) (.inl ?_)).up
    rw [app16 (by simp; omega)]
    simp only [Option.bind_some]
    rw [app16 (by simp; omega)]
    rfl
theorem stmtWords_rN : ∀ (N : Nat) (l : List r02_Stmt), szL (cL l) ≤ N → N ≤ 400000000000 → gL l = true → okL (cL l) → ∀ n, Sn n (2 * szL (cL l)) (r02_stmtWordsN n l) (lW l) := by
  intro N
  induction N with
  | zero => intro l hl; have := szL_pos (cL l); omega
  | succ N ih =>
    intro l hl hN hg ho n
    cases n with
    | zero => exact .inr ⟨rfl, by have := szL_pos (cL l); omega⟩
    | succ n =>
      have hll := cL_len l
      have hp := szL_pos (cL l)
      have hsum := szL_sum l
      have hsum5 : sumN (fun s => 5 * szS (cS s)) l = 5 * sumN (fun s => szS (cS s)) l := sumN_mul 5 _ l
      have h := wordloop (n := n) (H := 2 * szL (cL l) - 1) (body := r02_stmtWords_l1 (r02_stmtWordsN n) (r02_blockN n) l) l (fun _ s => stW s) (fun s => 5 * szS (cS s)) 4000000000000 (fun i acc => ((i : Int), acc)) (fun acc => .inr acc) (by omega) (fun i x _ => stW_len x)
        (fun i x acc hx hm hlt hw hM => by
          obtain ⟨hoS, hz⟩ := okL_memc ho hm
          have hgS : gS x = true := by rw [gL_all] at hg; exact List.all_eq_true.1 hg x hm
          obtain ⟨k, nm, tg, e, c, bo, el, ar⟩ := x
          rw [cS_eq] at hz hM
          simp only [cS, okS] at hoS
          obtain ⟨on, ot, oe, oc, ob, oel, oar⟩ := hoS
          simp only [gS] at hgS
          have hzc : szC (cC c) = 1 + szE (cE c.L) + szE (cE c.R) := rfl
          have p1 := szL_pos (cL bo)
          have p2 := szL_pos (cL el)
          have p3 := szA_pos (cA ar)
          have l1 := eW_len e
          have l2 := cW_len c
          have l3 := blW_len bo
          have l4 := blW_len el
          unfold r02_stmtWords_l1
          rw [if_pos (by simpa using hlt), hx]
          simp only [Option.bind_eq_bind, Option.bind_some, hw]
          dsimp only [r02_Stmt.Kind, r02_Stmt.Name, r02_Stmt.Tag, r02_Stmt.E, r02_Stmt.C, r02_Stmt.Body]
          have fin : ∀ w : List ByteArray, w = stW (.mk k nm tg e c bo el ar) → (some (Sum.inl (((i + 1 : Nat) : Int), acc ++ w)) : Option (Sum (Int × List ByteArray) (Sum (List ByteArray) (List ByteArray)))) = some (.inl (((i + 1 : Nat) : Int), acc ++ stW (.mk k nm tg e c bo el ar))) := fun w hw => by rw [hw]
          by_cases h1 : k = 1
          · subst h1
            simp only [show ((1 : Int) == 1) = true from rfl, if_true, Bool.and_eq_true] at hgS ⊢
            refine .inl ?_
            rw [app16 (by simp; omega)]
            simp only [Option.bind_some]
            rw [exprWords_r hgS.2 (by omega)]
            simp only [Option.bind_some]
            rw [app16 (by simp; omega)]
            simp only [Option.bind_some]
            rw [app16 (by simp; omega)]
            simp only [Option.bind_some, List.append_assoc]
            refine fin _ ?_
            simp only [stW, cS, sS, show ((1 : Int) == 1) = true from rfl, if_true, Wr.ws_app, wN, wW]
            rfl
          have z1 : (k == 1) = false := by simpa using h1
          simp only [z1, Bool.false_eq_true, if_false] at hgS ⊢
          by_cases h2 : k = 2
          · subst h2
            simp only [show ((2 : Int) == 2) = true from rfl, if_true, Bool.and_eq_true] at hgS ⊢
            obtain ⟨g1, g2, g3⟩ := hgS
            have fb := (block_rN (n := n) (ih bo (by omega) (by omega) g2 ob) (by omega)).mono (show 2 * szL (cL bo) + 1 ≤ 2 * szL (cL l) - 1 by omega)
            have fe := (block_rN (n := n) (ih el (by omega) (by omega) g3 oel) (by omega)).mono (show 2 * szL (cL el) + 1 ≤ 2 * szL (cL l) - 1 by omega)
            rw [app16 (by simp; omega)]
            simp only [Option.bind_some]
            rw [condWords_r g1 (by omega)]
            simp only [Option.bind_some]
            rw [app16 (by simp; omega)]
            simp only [Option.bind_some, Option.bind_assoc]
            refine Sn.bind (f := _) fb ?_
            rw [app16 (by simp; omega)]
            simp only [Option.bind_some]
            have hS : stW (.mk 2 nm tg e c bo el ar) = [ByteArray.mk #[105, 102]] ++ (cW c ++ (blW bo ++ (if (cL el).isEmpty then [] else [ByteArray.mk #[101, 108, 115, 101]] ++ blW el))) := by
              simp only [stW, cS, sS, show ((2 : Int) == 1) = false from rfl, show ((2 : Int) == 2) = true from rfl, Bool.false_eq_true, if_false, if_true, Wr.ws_app, inB_bl, cW, wW]
              split
              · rfl
              · simp only [Wr.ws_app, inB_bl]
            cases hel : el with
            | nil =>
              have hneg : decide ((((r02_Stmt.mk 2 nm tg e c bo [] ar).Else.length : Nat) : Int) > 0) = false := rfl
              simp only [hneg, Bool.false_eq_true, if_false, Option.bind_some, List.append_assoc]
              refine .inl ?_
              rw [hel] at fin hS
              refine fin _ ?_
              rw [hS]
              simp only [cL, List.isEmpty_nil, if_true, List.append_nil]
            | cons y r =>
              have hpos : decide ((((r02_Stmt.mk 2 nm tg e c bo (y :: r) ar).Else.length : Nat) : Int) > 0) = true := by show decide ((((y :: r).length : Nat) : Int) > 0) = true; simp only [List.length_cons, decide_eq_true_eq]; omega
              simp only [hpos, if_true]
              rw [hel] at fe fin hS l4 hM
              rw [app16 (by simp; omega)]
              simp only [Option.bind_some, Option.bind_assoc]
              refine Sn.bind (f := _) fe (.inl ?_)
              rw [app16 (by simp; omega)]
              simp only [Option.bind_some, List.append_assoc]
              refine fin _ ?_
              rw [hS]
              have : (cL (y :: r)).isEmpty = false := by simp only [cL]; rfl
              simp only [this, Bool.false_eq_true, if_false]
          have z2 : (k == 2) = false := by simpa using h2
          simp only [z2, Bool.false_eq_true, if_false] at hgS ⊢
          by_cases h3 : k = 3
          · subst h3
            simp only [show ((3 : Int) == 3) = true from rfl, if_true, Bool.and_eq_true] at hgS ⊢
            obtain ⟨g1, g2⟩ := hgS
            have fb := (block_rN (n := n) (ih bo (by omega) (by omega) g2 ob) (by omega)).mono (show 2 * szL (cL bo) + 1 ≤ 2 * szL (cL l) - 1 by omega)
            rw [app16 (by simp; omega)]
            simp only [Option.bind_some]
            rw [condWords_r g1 (by omega)]
            simp only [Option.bind_some]
            rw [app16 (by simp; omega)]
            simp only [Option.bind_some, Option.bind_assoc]
            refine Sn.bind (f := _) fb (.inl ?_)
            rw [app16 (by simp; omega)]
            simp only [Option.bind_some, List.append_assoc]
            refine fin _ ?_
            simp only [stW, cS, sS, show ((3 : Int) == 1) = false from rfl, show ((3 : Int) == 2) = false from rfl, show ((3 : Int) == 3) = true from rfl, Bool.false_eq_true, if_false, if_true, Wr.ws_app, inB_bl, cW, wW]
          have z3 : (k == 3) = false := by simpa using h3
          simp only [z3, Bool.false_eq_true, if_false] at hgS ⊢
          by_cases h4 : k = 4
          · subst h4
            simp only [show ((4 : Int) == 4) = true from rfl, if_true, Bool.and_eq_true] at hgS ⊢
            refine .inl ?_
            rw [app16 (by simp; omega)]
            simp only [Option.bind_some]
            rw [exprWords_r hgS.2.2 (by omega)]
            simp only [Option.bind_some]
            rw [app16 (by simp; omega)]
            simp only [Option.bind_some]
            rw [app16 (by simp; omega)]
            simp only [Option.bind_some, List.append_assoc]
            refine fin _ ?_
            simp only [stW, cS, sS, show ((4 : Int) == 1) = false from rfl, show ((4 : Int) == 2) = false from rfl, show ((4 : Int) == 3) = false from rfl, show ((4 : Int) == 4) = true from rfl, Bool.false_eq_true, if_false, if_true, Wr.ws_app, wN, wW]
            rfl
          have z4 : (k == 4) = false := by simpa using h4
          simp only [z4, Bool.false_eq_true, if_false] at hgS ⊢
          by_cases h5 : k = 5
          · subst h5
            simp only [show ((5 : Int) == 5) = true from rfl, if_true, Bool.and_eq_true] at hgS ⊢
            obtain ⟨⟨g1, g2⟩, g3⟩ := hgS
            have hal := cA_len ar
            have hsa := szA_sum ar
            have hsa5 : sumN (fun x : r02_Arm => 5 * (2 + szL (cL x.Body))) ar = 5 * sumN (fun x : r02_Arm => 2 + szL (cL x.Body)) ar := sumN_mul 5 _ ar
            rw [app16 (by simp; omega)]
            simp only [Option.bind_some, Option.bind_assoc]
            have lp := wordloop (n := n) (H := 2 * szL (cL l) - 1) (body := r02_stmtWords_l3 (r02_stmtWordsN n) (r02_blockN n) (.mk 5 nm tg e c bo el ar)) ar (fun _ x => arW x) (fun x => 5 * (2 + szL (cL x.Body))) 5000000000000 (fun i acc => ((i : Int), acc)) (fun acc => .inr acc) (by omega) (fun i x _ => by have := blW_len x.Body; unfold arW; simp; omega)
              (fun j y ac hy hym hyl hyw hyM => by
                obtain ⟨o1, o2, o3, z3⟩ := okA_memc oar y hym
                have ga : gAr y = true := by rw [gA_all] at g3; exact List.all_eq_true.1 g3 y hym
                unfold gAr at ga
                simp only [Bool.and_eq_true] at ga
                have fb := (block_rN (n := n) (ih y.Body (by omega) (by omega) ga.2.2 o3) (by omega)).mono (show 2 * szL (cL y.Body) + 1 ≤ 2 * szL (cL l) - 1 by omega)
                have lb := blW_len y.Body
                unfold r02_stmtWords_l3
                rw [if_pos (by show decide ((j : Int) < (ar.length : Int)) = true; simpa using hyl)]
                dsimp only [r02_Stmt.Arms]
                simp only [hy, Option.bind_eq_bind, Option.bind_some, hyw]
                rw [app16 (by simp; omega)]
                simp only [Option.bind_some]
                refine Sn.bind (f := _) fb (.inl ?_)
                rw [app16 (by simp; omega)]
                simp only [Option.bind_some, List.append_assoc]
                rfl)
              (fun ac => by unfold r02_stmtWords_l3; rw [if_neg (by simp [r02_Stmt.Arms])]) ar 0 (acc ++ [ByteArray.mk #[114, 101, 99, 118], nm, ByteArray.mk #[123]]) rfl (by omega) (by simp; omega)
            refine Sn.bind (f := _) lp (.inl ?_)
            have hlen : (flatG (fun _ x => arW x) 0 ar).length ≤ 5 * szA (cA ar) := by
              rw [← sA_flat]; exact sA_len _ _ _
            simp only [Sum.elim_inr]
            rw [app16 (by simp; omega)]
            simp only [Option.bind_some, List.append_assoc]
            refine fin _ ?_
            simp only [stW, cS, sS, show ((5 : Int) == 1) = false from rfl, show ((5 : Int) == 2) = false from rfl, show ((5 : Int) == 3) = false from rfl, show ((5 : Int) == 4) = false from rfl, show ((5 : Int) == 5) = true from rfl, Bool.false_eq_true, if_false, if_true, Wr.ws_app, sA_flat ar 0, wN, wW, wM]
            rfl
          have z5 : (k == 5) = false := by simpa using h5
          simp only [z5, Bool.false_eq_true, if_false] at hgS ⊢
          by_cases h6 : k = 6
          · subst h6
            simp only [show ((6 : Int) == 6) = true from rfl, if_true] at hgS ⊢
            refine .inl ?_
            rw [app16 (by simp; omega)]
            simp only [Option.bind_some]
            rw [condWords_r hgS (by omega)]
            simp only [Option.bind_some]
            rw [app16 (by simp; omega)]
            simp only [Option.bind_some]
            rw [app16 (by simp; omega)]
            simp only [Option.bind_some, List.append_assoc]
            refine fin _ ?_
            simp only [stW, cS, sS, show ((6 : Int) == 1) = false from rfl, show ((6 : Int) == 2) = false from rfl, show ((6 : Int) == 3) = false from rfl, show ((6 : Int) == 4) = false from rfl, show ((6 : Int) == 5) = false from rfl, show ((6 : Int) == 6) = true from rfl, Bool.false_eq_true, if_false, if_true, Wr.ws_app, cW, wW]
          have z6 : (k == 6) = false := by simpa using h6
          simp only [z6, Bool.false_eq_true, if_false] at hgS ⊢
          by_cases h7 : k = 7
          · subst h7
            refine .inl ?_
            simp only [Int.reduceBEq, if_true]
            rw [app16 (by simp; omega)]
            simp only [Option.bind_some]
            refine fin _ ?_
            simp only [stW, cS, sS, show ((7 : Int) == 1) = false from rfl, show ((7 : Int) == 2) = false from rfl, show ((7 : Int) == 3) = false from rfl, show ((7 : Int) == 4) = false from rfl, show ((7 : Int) == 5) = false from rfl, show ((7 : Int) == 6) = false from rfl, show ((7 : Int) == 7) = true from rfl, Bool.false_eq_true, if_false, if_true, Wr.ws_app, wN, wW]
            try rfl
          have z7 : (k == 7) = false := by simpa using h7
          simp only [z7, Bool.false_eq_true, if_false] at hgS
          )
        (fun acc => by unfold r02_stmtWords_l1; rw [if_neg (by simp)]) l 0 [] rfl (by omega) (by simp; omega)
      rw [List.nil_append, ← lW_flat] at h
      have t2 := (Sn.bind (f := Sum.elim (fun _ => none) (fun j1 => some j1)) h (t := lW l) (.inl rfl)).up
      exact t2.mono (by omega)
theorem stmtWords_r {l : List r02_Stmt} (hg : gL l = true) (ho : okL (cL l)) (h : szL (cL l) ≤ 400000000000) : r02_stmtWords l = some (lW l) := Sn.unf fun n => stmtWords_rN _ l (Nat.le_refl _) h hg ho n
/-! ### Systems -/
theorem flat_dpB {β : Type} {g : Nat → β → Wr} {p : β → Bool} : ∀ {l : List β} {i : Nat}, (∀ i, ∀ x ∈ l, (g i x).dp = !p x) → (flatW g i l).dp = !l.all p
  | [], i, h => rfl
  | x :: r, i, h => by simp only [flatW, Wr.dp_app, h i x List.mem_cons_self, flat_dpB (p := p) fun i y hy => h i y (List.mem_cons_of_mem _ hy), List.all_cons, Bool.not_and]
def okDeep (p : r02_Proc) : Bool := !dq (dL p.Body) 0
theorem flat_dp0 {β : Type} {g : Nat → β → Wr} : ∀ {l : List β} {i : Nat}, (∀ i, ∀ x ∈ l, (g i x).dp = false) → (flatW g i l).dp = false
  | [], i, h => rfl
  | x :: r, i, h => by simp only [flatW, Wr.dp_app, h i x List.mem_cons_self, flat_dp0 fun i y hy => h i y (List.mem_cons_of_mem _ hy), Bool.or_self]
theorem sSys_dp (s : r02_System) (hg : gSys s = true) : (sSys (cSys s)).dp = !s.Procs.all okDeep := by
  unfold gSys at hg
  simp only [Bool.and_eq_true, List.all_eq_true] at hg
  unfold sSys
  simp only [cSys, Wr.dp_app]
  have e1 : (flatW (fun _ => sCh) 0 (s.Chans.map cCh)).dp = false := flat_dp0 fun i c hc => by
    have ht : (flatW wTag 0 c.Tags).dp = false := flat_dp0 fun i x _ => by unfold wTag; split <;> simp [wN, wW]
    unfold sCh
    simp only [Wr.dp_app, ht]
    cases kindOk c.Kind <;> simp [wW, wN, wI, wM]
  have e2 : (flatW (fun _ => sR) 0 (s.Rules.map cRu)).dp = false := flat_dp0 fun i c hc => by
    have ht : (flatW wMove 0 c.Moves).dp = false := flat_dp0 fun i x _ => by simp [wMove, wI, wN, wW]
    unfold sR
    simp only [Wr.dp_app, ht]
    simp [wW, wN]
  have e3 : (flatW (fun _ => sP) 0 (s.Procs.map cPr)).dp = !s.Procs.all okDeep := by
    have : ∀ (l : List r02_Proc) (i : Nat), (∀ p ∈ l, gP p = true) → (flatW (fun _ => sP) i (l.map cPr)).dp = !l.all okDeep := by
      intro l
      induction l with
      | nil => intro i _; rfl
      | cons p r ih =>
        intro i h
        have hp := h p List.mem_cons_self
        unfold gP at hp
        simp only [Bool.and_eq_true] at hp
        have ht : (flatW wVar 0 p.Vars).dp = false := flat_dp0 fun i x _ => by simp [wVar, wN, wW]
        have hd : (sP (cPr p)).dp = !okDeep p := by
          simp only [sP, cPr, Wr.dp_app, ht, sL_dp p.Body 0 hp.2.1, okDeep]
          simp [wW, wN]
        simp only [List.map_cons, flatW, Wr.dp_app, hd, ih (i + 1) (fun q hq => h q (List.mem_cons_of_mem _ hq)), List.all_cons, Bool.not_and]
    exact this s.Procs 0 hg.2.2
  rw [e1, e2, e3]; rfl
def tagG (i : Nat) (t : ByteArray) : List ByteArray := if i = 0 then [t] else [ByteArray.mk #[44], t]
theorem tagG_W (i : Nat) (t : ByteArray) : (wTag i t).ws = tagG i t := by unfold wTag tagG; split <;> rfl
def chG (c : r02_Chan) : List ByteArray := [ByteArray.mk #[99, 104, 97, 110], c.Name, kindW c.Kind, itoaB c.Size, ByteArray.mk #[102, 114, 111, 109], c.From, ByteArray.mk #[116, 111], c.To, ByteArray.mk #[123]] ++ (flatG tagG 0 c.Tags ++ [ByteArray.mk #[125], ByteArray.mk #[59]])
theorem chG_W {c : r02_Chan} (h : kindOk c.Kind = true) : (sCh (cCh c)).ws = chG c := by
  unfold sCh chG
  simp only [Wr.ws_app, cCh, h, if_true, flatG_W, flatG_congr (g' := tagG) c.Tags 0 (fun i x _ => tagG_W i x)]
  simp [wW, wN, wI, wM]
def moG (m : r02_Move) : List ByteArray := [itoaB m.From, m.Tag, itoaB m.To, ByteArray.mk #[59]]
def ruG (r : r02_Rule) : List ByteArray := [ByteArray.mk #[114, 117, 108, 101], r.Chan, ByteArray.mk #[123]] ++ (flatG (fun _ m => moG m) 0 r.Moves ++ [ByteArray.mk #[125]])
theorem ruG_W (r : r02_Rule) : (sR (cRu r)).ws = ruG r := by
  unfold sR ruG
  have h : flatG (fun i x => (wMove i (cMo x)).ws) 0 r.Moves = flatG (fun _ m => moG m) 0 r.Moves := flatG_congr _ _ (fun i x _ => rfl)
  simp only [Wr.ws_app, cRu, flatG_W, flatG_map, h]
  simp [wW, wN]
def vaG (v : ByteArray) : List ByteArray := [ByteArray.mk #[118, 97, 114], v, ByteArray.mk #[59]]
def prG (p : r02_Proc) : List ByteArray := [ByteArray.mk #[112, 114, 111, 99], p.Name, ByteArray.mk #[123]] ++ (flatG (fun _ v => vaG v) 0 p.Vars ++ (lW p.Body ++ [ByteArray.mk #[125]]))
theorem prG_W (p : r02_Proc) : (sP (cPr p)).ws = prG p := by
  unfold sP prG
  have h : flatG (fun i x => (wVar i x).ws) 0 p.Vars = flatG (fun _ v => vaG v) 0 p.Vars := flatG_congr _ _ (fun i x _ => rfl)
  simp only [Wr.ws_app, cPr, flatG_W, h, lW]
  simp [wW, wN]
theorem sSys_ws {s : r02_System} (hg : gSys s = true) : (sSys (cSys s)).ws = flatG (fun _ c => chG c) 0 s.Chans ++ (flatG (fun _ r => ruG r) 0 s.Rules ++ flatG (fun _ p => prG p) 0 s.Procs) := by
  unfold gSys at hg
  simp only [Bool.and_eq_true, List.all_eq_true] at hg
  unfold sSys
  simp only [Wr.ws_app, cSys, flatG_W, flatG_map]
  rw [flatG_congr (g' := fun _ c => chG c) s.Chans 0 (fun i c hc => chG_W (by have := hg.1 c hc; unfold gCh at this; simp only [Bool.and_eq_true] at this; exact this.2.2.2.1)),
    flatG_congr (g' := fun _ r => ruG r) s.Rules 0 (fun i r _ => ruG_W r), flatG_congr (g' := fun _ p => prG p) s.Procs 0 (fun i p _ => prG_W p)]
theorem tags_sum (l : List ByteArray) : sumN (fun _ : ByteArray => 2) l = 2 * l.length := sumN_const 2 l
theorem words_r {s : r02_System} (ho : okSys (cSys s)) (hs : szSys (cSys s) ≤ 400000000000) : r02_Words s = some (endW (sSys (cSys s))) := by
  obtain ⟨l1, l2, l3⟩ := lens s
  unfold r02_Words
  rw [right_r ho hs]
  simp only [Option.bind_eq_bind, Option.bind_some]
  have hbad := sSys_bad s
  cases hg : gSys s with
  | false =>
    rw [hg] at hbad
    simp only [Bool.not_false, if_true]
    unfold endW
    rw [hbad]; rfl
  | true =>
    rw [hg] at hbad
    have hdp := sSys_dp s hg
    have hws := sSys_ws hg
    have hlen := sSys_len (cSys s)
    have hg' := hg
    unfold gSys at hg'
    simp only [Bool.and_eq_true, List.all_eq_true] at hg'
    obtain ⟨gc, gr, gp⟩ := hg'
    simp only [Bool.not_true, Bool.false_eq_true, if_false]
    rw [allloop_f (body := r02_Words_l1 s) s.Procs okDeep ([], 6) (by omega) (fun i x h0 h1 hm hlt hw => by
      obtain ⟨o1, o2, o3⟩ := okP_c ho hm
      have o3' : okL (cL x.Body) := o3
      have hz := sz_pr hm
      have gx := gp x hm
      unfold gP at gx
      simp only [Bool.and_eq_true] at gx
      unfold r02_Words_l1
      rw [if_pos (by simpa using hlt), h1]
      simp only [Option.bind_eq_bind, Option.bind_some]
      rw [blocks_r gx.2.1 o3' (by omega)]
      simp only [Option.bind_some, hw, okDeep, dq, dpB0]
      have q1 : decide ((((dL x.Body).1 : Nat) : Int) > 24) = decide (24 < (dL x.Body).1) := decide_eq_decide.mpr (by omega)
      have q2 : decide ((((dL x.Body).2 : Nat) : Int) > 24) = decide (24 < (dL x.Body).2) := decide_eq_decide.mpr (by omega)
      rw [q1, q2]
      cases decide (24 < (dL x.Body).1) <;> cases decide (24 < (dL x.Body).2) <;> rfl) (by unfold r02_Words_l1; rw [if_neg (by simp)])]
    simp only [Option.bind_some]
    cases hd : s.Procs.all okDeep with
    | false =>
      rw [hd] at hdp
      simp only [Bool.false_eq_true, if_false, Sum.elim_inl]
      unfold endW
      rw [hbad, hdp]; rfl
    | true =>
      rw [hd] at hdp
      simp only [if_true, Sum.elim_inr]
      have s1 := sumN_mul 5 szCh (cSys s).Chans
      have s2 := sumN_mul 5 szR (cSys s).Rules
      have s3 := sumN_mul 5 szP (cSys s).Procs
      have hsz : szSys (cSys s) = sumN szCh (cSys s).Chans + sumN szR (cSys s).Rules + sumN szP (cSys s).Procs := rfl
      have t1 : sumN (fun c : r02_Chan => 5 * szCh (cCh c)) s.Chans = 5 * sumN szCh (cSys s).Chans := by rw [← s1]; exact (sumN_map (fun c => 5 * szCh c) cCh s.Chans).symm
      have t2 : sumN (fun c : r02_Rule => 5 * szR (cRu c)) s.Rules = 5 * sumN szR (cSys s).Rules := by rw [← s2]; exact (sumN_map (fun c => 5 * szR c) cRu s.Rules).symm
      have t3 : sumN (fun c : r02_Proc => 5 * szP (cPr c)) s.Procs = 5 * sumN szP (cSys s).Procs := by rw [← s3]; exact (sumN_map (fun c => 5 * szP c) cPr s.Procs).symm
      have chl : ∀ c ∈ s.Chans, (chG c).length ≤ 5 * szCh (cCh c) := fun c hc => by
        rw [← chG_W (by have := gc c hc; unfold gCh at this; simp only [Bool.and_eq_true] at this; exact this.2.2.2.1)]; exact sCh_len _
      have rul : ∀ c : r02_Rule, (ruG c).length ≤ 5 * szR (cRu c) := fun c => by rw [← ruG_W]; exact sR_len _
      have prl : ∀ c : r02_Proc, (prG c).length ≤ 5 * szP (cPr c) := fun c => by rw [← prG_W]; exact sP_len _
      rw [wordloop_f (body := r02_Words_l3 s) s.Chans (fun _ c => chG c) (fun c => 5 * szCh (cCh c)) 4000000000000 (fun acc => .inr acc) (by omega) (fun i x hx => chl x hx)
        (fun i x acc hx hm hlt hw hM => by
          have gx := gc x hm
          unfold gCh at gx
          simp only [Bool.and_eq_true] at gx
          have hz2 : szCh (cCh x) = 3 + x.Tags.length := rfl
          have htg : (flatG tagG 0 x.Tags).length ≤ 2 * x.Tags.length := by
            have := tags_len x.Tags 0
            rwa [flatG_W, flatG_congr (g' := tagG) x.Tags 0 (fun i x _ => tagG_W i x)] at this
          have ht := wordloop_f (body := r02_Words_l4 x) x.Tags tagG (fun _ => 2) 5000000000000 (fun acc => .inr acc) (by omega) (fun i y _ => by unfold tagG; split <;> simp)
            (fun j y ac hy hym hyl hyw hyM => by
              unfold r02_Words_l4
              rw [if_pos (by simpa using hyl)]
              simp only [hy, Option.bind_eq_bind, Option.bind_some, hyw]
              by_cases hj : j = 0
              · subst hj
                rw [if_neg (by simp), app16 (by simp; omega)]
                rfl
              · rw [if_pos (by simp; omega), app16 (by simp; omega)]
                simp only [Option.bind_some]
                rw [app16 (by simp; omega)]
                unfold tagG
                rw [if_neg hj]
                simp)
            (fun ac => by unfold r02_Words_l4; rw [if_neg (by simp)]) (acc ++ [ByteArray.mk #[99, 104, 97, 110], x.Name, kindW x.Kind, itoaB x.Size, ByteArray.mk #[102, 114, 111, 109], x.From, ByteArray.mk #[116, 111], x.To, ByteArray.mk #[123]]) (by rw [tags_sum]; simp; omega)
          unfold r02_Words_l3
          rw [if_pos (by simpa using hlt)]
          simp only [hx, Option.bind_eq_bind, Option.bind_some]
          rw [kind_idx gx.2.2.2.1, digits_r gx.2.2.2.2.1]
          simp only [Option.bind_some]
          rw [app16 (by simp; omega)]
          simp only [Option.bind_some]
          rw [ht]
          simp only [Option.bind_some, Sum.elim_inr]
          rw [app16 (by simp; omega)]
          simp only [Option.bind_some, hw, chG, List.append_assoc])
        (fun acc => by unfold r02_Words_l3; rw [if_neg (by simp)]) [] (by simp; omega)]
      simp only [Option.bind_some, Sum.elim_inr, List.nil_append]
      have c1 : (flatG (fun _ c => chG c) 0 s.Chans).length ≤ 5 * sumN szCh (cSys s).Chans := by
        have := congrArg List.length hws
        have h1 := flatW_len (g := fun _ => sCh) (c := fun c => 5 * szCh c) (l := (cSys s).Chans) (i := 0) (fun i x _ => sCh_len x)
        rw [flatG_W, s1] at h1
        simp only [cSys, flatG_map] at h1
        rw [flatG_congr (g' := fun _ c => chG c) s.Chans 0 (fun i c hc => chG_W (by have := gc c hc; unfold gCh at this; simp only [Bool.and_eq_true] at this; exact this.2.2.2.1))] at h1
        exact h1
      have c2 : (flatG (fun _ r => ruG r) 0 s.Rules).length ≤ 5 * sumN szR (cSys s).Rules := by
        have h1 := flatW_len (g := fun _ => sR) (c := fun c => 5 * szR c) (l := (cSys s).Rules) (i := 0) (fun i x _ => sR_len x)
        rw [flatG_W, s2] at h1
        simp only [cSys, flatG_map] at h1
        rw [flatG_congr (g' := fun _ r => ruG r) s.Rules 0 (fun i r _ => ruG_W r)] at h1
        exact h1
      rw [wordloop_f (body := r02_Words_l6 s) s.Rules (fun _ c => ruG c) (fun c => 5 * szR (cRu c)) 4000000000000 (fun acc => .inr acc) (by omega) (fun i x hx => rul x)
        (fun i x acc hx hm hlt hw hM => by
          have gx := gr x hm
          unfold gR at gx
          simp only [Bool.and_eq_true, List.all_eq_true] at gx
          have hz2 : szR (cRu x) = 1 + (x.Moves.map cMo).length := rfl
          rw [List.length_map] at hz2
          have hml : (flatG (fun _ m => moG m) 0 x.Moves).length ≤ 4 * x.Moves.length := by
            have := moves_len (x.Moves.map cMo) 0
            have h : flatG (fun i x => (wMove i (cMo x)).ws) 0 x.Moves = flatG (fun _ m => moG m) 0 x.Moves := flatG_congr _ _ (fun i x _ => rfl)
            rwa [flatG_W, flatG_map, List.length_map, h] at this
          have ht := wordloop_f (body := r02_Words_l7 s ((i : Int), acc)) x.Moves (fun _ m => moG m) (fun _ => 4) 5000000000000 (fun acc => .inr acc) (by omega) (fun i y _ => by simp [moG])
            (fun j y ac hy hym hyl hyw hyM => by
              have gy := gx.2 y hym
              unfold gMo at gy
              simp only [Bool.and_eq_true] at gy
              unfold r02_Words_l7
              simp only [hx, Option.bind_eq_bind, Option.bind_some]
              rw [if_pos (by simpa using hyl)]
              simp only [hy, Option.bind_some]
              rw [digits_r gy.1, digits_r gy.2.1]
              simp only [Option.bind_some]
              rw [app16 (by simp; omega)]
              simp only [Option.bind_some, hyw, moG])
            (fun ac => by unfold r02_Words_l7; simp only [hx, Option.bind_eq_bind, Option.bind_some]; rw [if_neg (by simp)]) (acc ++ [ByteArray.mk #[114, 117, 108, 101], x.Chan, ByteArray.mk #[123]]) (by rw [sumN_const 4]; simp; omega)
          unfold r02_Words_l6
          rw [if_pos (by simpa using hlt)]
          simp only [hx, Option.bind_eq_bind, Option.bind_some]
          rw [app16 (by simp; omega)]
          simp only [Option.bind_some]
          rw [ht]
          simp only [Option.bind_some, Sum.elim_inr]
          rw [app16 (by simp; omega)]
          simp only [Option.bind_some, hw, ruG, List.append_assoc])
        (fun acc => by unfold r02_Words_l6; rw [if_neg (by simp)]) _ (by omega)]
      simp only [Option.bind_some, Sum.elim_inr]
      rw [wordloop_f (body := r02_Words_l8 s) s.Procs (fun _ c => prG c) (fun c => 5 * szP (cPr c)) 4000000000000 (fun acc => .inr acc) (by omega) (fun i x hx => prl x)
        (fun i x acc hx hm hlt hw hM => by
          obtain ⟨o1, o2, o3⟩ := okP_c ho hm
          have o3' : okL (cL x.Body) := o3
          have hz := sz_pr hm
          have gx := gp x hm
          unfold gP at gx
          simp only [Bool.and_eq_true, List.all_eq_true] at gx
          have hz2 : szP (cPr x) = 1 + x.Vars.length + szL (cL x.Body) := rfl
          have hvl : (flatG (fun _ v => vaG v) 0 x.Vars).length ≤ 3 * x.Vars.length := by
            have := vars_len x.Vars 0
            have h : flatG (fun i x => (wVar i x).ws) 0 x.Vars = flatG (fun _ v => vaG v) 0 x.Vars := flatG_congr _ _ (fun i x _ => rfl)
            rwa [flatG_W, h] at this
          have hbl := lW_len x.Body
          have ht := wordloop_f (body := r02_Words_l9 x) x.Vars (fun _ v => vaG v) (fun _ => 3) 5000000000000 (fun acc => .inr acc) (by omega) (fun i y _ => by simp [vaG])
            (fun j y ac hy hym hyl hyw hyM => by
              unfold r02_Words_l9
              rw [if_pos (by simpa using hyl)]
              simp only [hy, Option.bind_eq_bind, Option.bind_some]
              rw [app16 (by simp; omega)]
              simp only [Option.bind_some, hyw, vaG])
            (fun ac => by unfold r02_Words_l9; rw [if_neg (by simp)]) (acc ++ [ByteArray.mk #[112, 114, 111, 99], x.Name, ByteArray.mk #[123]]) (by rw [sumN_const 3]; simp; omega)
          unfold r02_Words_l8
          rw [if_pos (by simpa using hlt)]
          simp only [hx, Option.bind_eq_bind, Option.bind_some]
          rw [app16 (by simp; omega)]
          simp only [Option.bind_some]
          rw [ht]
          simp only [Option.bind_some, Sum.elim_inr]
          rw [stmtWords_r gx.2.1 o3' (by omega)]
          simp only [Option.bind_some]
          rw [app16 (by simp; omega)]
          simp only [Option.bind_some]
          rw [app16 (by simp; omega)]
          simp only [Option.bind_some, hw, prG, List.append_assoc])
        (fun acc => by unfold r02_Words_l8; rw [if_neg (by simp)]) _ (by rw [List.length_append]; omega)]
      simp only [Option.bind_some, Sum.elim_inr, List.append_assoc]
      rw [← hws]
      unfold endW
      rw [hbad, hdp]
      simp only [Bool.not_true, Bool.false_eq_true, if_false]
      by_cases h2 : 2000 < (sSys (cSys s)).ws.length
      · rw [if_pos h2, if_pos (by simp; omega)]
      · rw [if_neg h2, if_neg (by simp; omega)]
end Go.Proofs.YtaaihamelknhdaaGreatDoor.Abs.Wri
/- The program finds each system the same as itself. -/
namespace Go.Proofs.YtaaihamelknhdaaGreatDoor.Abs.Wri
open Go Go.RowKit
set_option linter.unusedVariables false
set_option linter.unusedSimpArgs false
theorem eqloop {β O : Type} {body : Int → Option (Sum Int (Sum O Unit))} {n H : Nat} (l : List β) (r : O) (hlen : l.length ≤ 4611686018427387904)
    (hs : ∀ (i : Nat) (x : β), idx l (i : Int) = some x → x ∈ l → i < l.length → IntKind.i64.wrap ((i : Int) + 1) = ((i + 1 : Nat) : Int) → Sn n H (body (i : Int)) (.inl ((i + 1 : Nat) : Int)))
    (he : body (l.length : Int) = some (.inr (.inr ()))) : Sn n H (iter body 0) (.inr ()) := by
  have h := allloop (n := n) (H := H) l (fun _ => true) r hlen (fun i x h0 h1 h2 h3 h4 => by simpa using hs i x h1 h2 h3 h4) he
  have e : (l.all fun _ => true) = true := by simp
  rw [e] at h
  simpa using h
theorem eqloop_f {β O : Type} {body : Int → Option (Sum Int (Sum O Unit))} (l : List β) (r : O) (hlen : l.length ≤ 4611686018427387904)
    (hs : ∀ (i : Nat) (x : β), idx l (i : Int) = some x → x ∈ l → i < l.length → IntKind.i64.wrap ((i : Int) + 1) = ((i + 1 : Nat) : Int) → body (i : Int) = some (.inl ((i + 1 : Nat) : Int)))
    (he : body (l.length : Int) = some (.inr (.inr ()))) : iter body 0 = some (.inr ()) := by
  rcases eqloop (n := 0) (H := 0) l r hlen (fun i x h1 h2 h3 h4 => .inl (hs i x h1 h2 h3 h4)) he with h | ⟨_, h⟩
  · exact h
  · omega
theorem bne_self {n : Int} : (n != n) = false := by simp
/-! ### Expressions -/
theorem szEs_lenA : ∀ l : List ast_Expr, l.length ≤ szEs l
  | [] => by simp
  | e :: r => by have := szEs_lenA r; have := szE_pos e; simp only [szEs, List.length_cons]; omega
theorem szEs_memA : ∀ {l : List ast_Expr} {x : ast_Expr}, x ∈ l → szE x ≤ szEs l
  | y :: r, x, h => by
    rcases List.mem_cons.1 h with rfl | h
    · simp only [szEs]; omega
    · have := szEs_memA h; simp only [szEs]; omega
mutual
theorem same_E : ∀ (e : ast_Expr), szE e ≤ 400000000000 → ∀ n, Sn n (2 * szE e) (ast_sameExprN n e e) true
  | ⟨k, m, s, l⟩, hz, n => by
    simp only [szE] at hz ⊢
    have hm := same_Es l (by omega)
    have hl := szEs_lenA l
    have hL : ∀ n, Sn n (2 * szEs l + 1) (ast_Expr__ast_sameExprN n l l) true := fun n => by
      cases n with
      | zero => exact .inr ⟨rfl, by omega⟩
      | succ n =>
        simp only [ast_Expr__ast_sameExprN, bne_self, Bool.false_eq_true, if_false]
        refine (Sn.bind (f := Sum.elim (fun r => some r) (fun j1 => some true)) (eqloop (O := Bool) (body := ast_Expr__ast_sameExpr_l1 (ast_sameExprN n) (ast_Expr__ast_sameExprN n) l l) (n := n) (H := 2 * szEs l) l false (by omega) (fun i x hx hxm hlt hw => by
          unfold ast_Expr__ast_sameExpr_l1
          rw [if_pos (by simpa using hlt), hx]
          simp only [Option.bind_eq_bind, Option.bind_some, hw]
          have := szEs_memA hxm
          exact Sn.bind (f := _) ((hm x hxm n).mono (by omega)) (.inl rfl)) (by unfold ast_Expr__ast_sameExpr_l1; rw [if_neg (by simp)])) (.inl rfl)).up
    cases n with
    | zero => exact .inr ⟨rfl, by omega⟩
    | succ n =>
      have hj : ((if (k != k) = true then some true else if (k == 1) = true then (if (m != m) = true then some true else if (k == 2) = true then some (!(s.toList == s.toList)) else some false) else if (k == 2) = true then some (!(s.toList == s.toList)) else some false) : Option Bool) = some false := by
        cases (k == 1) <;> cases (k == 2) <;> simp
      simp only [ast_sameExprN, hj, Option.bind_eq_bind, Option.bind_some, Bool.false_eq_true, if_false, some_bind_id]
      exact (hL n).up.mono (by omega)
theorem same_Es : ∀ (l : List ast_Expr), szEs l ≤ 400000000000 → ∀ x ∈ l, ∀ n, Sn n (2 * szE x) (ast_sameExprN n x x) true
  | [], hz, x, h, n => by cases h
  | e :: r, hz, x, h, n => by
    simp only [szEs] at hz
    rcases List.mem_cons.1 h with h | h
    · rw [h]; exact same_E e (by omega) n
    · exact same_Es r (by omega) x h n
end
theorem same_e {e : ast_Expr} (h : szE e ≤ 400000000000) : ast_sameExpr e e = some true := Sn.unf fun n => same_E e h n
theorem same_c {c : ast_Cond} (h : szC c ≤ 400000000000) : ast_sameCond c c = some true := by
  unfold szC at h
  unfold ast_sameCond
  rw [same_e (e := c.L) (by omega), same_e (e := c.R) (by omega)]
  simp
/-! ### Statements -/
theorem szL_lenA : ∀ l : List ast_Stmt, l.length ≤ szL l := len_szL
theorem szL_memA : ∀ {l : List ast_Stmt} {x : ast_Stmt}, x ∈ l → szS x + 1 ≤ szL l
  | y :: r, x, h => by
    have := szL_pos r
    rcases List.mem_cons.1 h with rfl | h
    · simp only [szL]; omega
    · have := szL_memA h; simp only [szL]; omega
theorem szA_memA : ∀ {l : List ast_Arm} {x : ast_Arm}, x ∈ l → szL x.Body + 3 ≤ szA l
  | .mk t v b :: r, x, h => by
    have := szA_pos r
    rcases List.mem_cons.1 h with rfl | h
    · simp only [szA]; show szL b + 3 ≤ _; omega
    · have := szA_memA h; simp only [szA]; omega
theorem stmts_of {l : List ast_Stmt} (hz : szL l ≤ 400000000000) (h : ∀ x ∈ l, ∀ n, Sn n (2 * szS x) (ast_sameStmtN n x x) true) (n : Nat) : Sn n (2 * szL l) (ast_Stmt__ast_sameStmtN n l l) true := by
  have hl := szL_lenA l
  have hp := szL_pos l
  cases n with
  | zero => exact .inr ⟨rfl, by omega⟩
  | succ n =>
    simp only [ast_Stmt__ast_sameStmtN, bne_self, Bool.false_eq_true, if_false]
    refine (Sn.bind (f := Sum.elim (fun r => some r) (fun j1 => some true)) (eqloop (O := Bool) (body := ast_Stmt__ast_sameStmt_l1 (ast_Stmt__ast_sameStmtN n) (ast_sameStmtN n) (ast_Arm__ast_sameArmN n) (ast_sameArmN n) l l) (n := n) (H := 2 * szL l - 1) l false (by omega) (fun i x hx hxm hlt hw => by
      unfold ast_Stmt__ast_sameStmt_l1
      rw [if_pos (by simpa using hlt), hx]
      simp only [Option.bind_eq_bind, Option.bind_some, hw]
      have := szL_memA hxm
      exact Sn.bind (f := _) ((h x hxm n).mono (by omega)) (.inl rfl)) (by unfold ast_Stmt__ast_sameStmt_l1; rw [if_neg (by simp)])) (.inl rfl)).up.mono (by omega)
theorem arms_of {l : List ast_Arm} (hz : szA l ≤ 400000000000) (h : ∀ x ∈ l, ∀ n, Sn n (2 * szL x.Body + 1) (ast_sameArmN n x x) true) (n : Nat) : Sn n (2 * szA l) (ast_Arm__ast_sameArmN n l l) true := by
  have hl := len_szA l
  have hp := szA_pos l
  cases n with
  | zero => exact .inr ⟨rfl, by omega⟩
  | succ n =>
    simp only [ast_Arm__ast_sameArmN, bne_self, Bool.false_eq_true, if_false]
    refine (Sn.bind (f := Sum.elim (fun r => some r) (fun j1 => some true)) (eqloop (O := Bool) (body := ast_Arm__ast_sameArm_l1 (ast_Stmt__ast_sameStmtN n) (ast_sameStmtN n) (ast_Arm__ast_sameArmN n) (ast_sameArmN n) l l) (n := n) (H := 2 * szA l - 1) l false (by omega) (fun i x hx hxm hlt hw => by
      unfold ast_Arm__ast_sameArm_l1
      rw [if_pos (by simpa using hlt), hx]
      simp only [Option.bind_eq_bind, Option.bind_some, hw]
      have := szA_memA hxm
      exact Sn.bind (f := _) ((h x hxm n).mono (by omega)) (.inl rfl)) (by unfold ast_Arm__ast_sameArm_l1; rw [if_neg (by simp)])) (.inl rfl)).up.mono (by omega)
mutual
theorem same_S : ∀ (s : ast_Stmt), szS s ≤ 400000000000 → ∀ n, Sn n (2 * szS s) (ast_sameStmtN n s s) true
  | .mk k nm tg e c bo el ar, hz, n => by
    simp only [szS] at hz ⊢
    have p1 := szL_pos bo
    have hb := stmts_of (l := bo) (by omega) (same_L bo (by omega)) 
    have he := stmts_of (l := el) (by omega) (same_L el (by omega))
    have ha := arms_of (l := ar) (by omega) (same_A ar (by omega))
    cases n with
    | zero => exact .inr ⟨rfl, by omega⟩
    | succ n =>
      simp only [ast_sameStmtN]
      dsimp only [ast_Stmt.Kind, ast_Stmt.Name, ast_Stmt.Tag, ast_Stmt.E, ast_Stmt.C, ast_Stmt.Body, ast_Stmt.Else, ast_Stmt.Arms]
      simp only [bne_self, Bool.false_eq_true, if_false, beq_self_eq_true, if_true, same_e (e := e) (by omega), same_c (c := c) (by omega), Option.bind_eq_bind, Option.bind_some, some_bind_id]
      refine Sn.mono (h := 2 * (4 + szE e + szC c + szL bo + szL el + szA ar) - 1 + 1) (Sn.up ?_) (by omega)
      cases (k == 1) with
      | true => exact .inl rfl
      | false =>
        simp only [Bool.false_eq_true, if_false]
        cases (k == 2) with
        | true =>
          simp only [if_true]
          exact Sn.bind (f := _) ((hb n).mono (by omega)) (by simp only [if_true]; exact (he n).mono (by omega))
        | false =>
          simp only [Bool.false_eq_true, if_false]
          cases (k == 3) with
          | true => simp only [if_true]; exact (hb n).mono (by omega)
          | false =>
            simp only [Bool.false_eq_true, if_false]
            cases (k == 4) with
            | true => exact .inl rfl
            | false =>
              simp only [Bool.false_eq_true, if_false]
              cases (k == 5) with
              | true => simp only [if_true]; exact (ha n).mono (by omega)
              | false =>
                simp only [Bool.false_eq_true, if_false]
                cases (k == 6) <;> cases (k == 7) <;> exact .inl rfl
theorem same_L : ∀ (l : List ast_Stmt), szL l ≤ 400000000000 → ∀ x ∈ l, ∀ n, Sn n (2 * szS x) (ast_sameStmtN n x x) true
  | [], hz, x, h, n => by cases h
  | e :: r, hz, x, h, n => by
    simp only [szL] at hz
    rcases List.mem_cons.1 h with h | h
    · rw [h]; exact same_S e (by omega) n
    · exact same_L r (by omega) x h n
theorem same_A : ∀ (l : List ast_Arm), szA l ≤ 400000000000 → ∀ x ∈ l, ∀ n, Sn n (2 * szL x.Body + 1) (ast_sameArmN n x x) true
  | [], hz, x, h, n => by cases h
  | .mk t v b :: r, hz, x, h, n => by
    simp only [szA] at hz
    rcases List.mem_cons.1 h with h | h
    · rw [h]
      show Sn n (2 * szL b + 1) _ true
      have hb := stmts_of (l := b) (by omega) (same_L b (by omega))
      cases n with
      | zero => exact .inr ⟨rfl, by omega⟩
      | succ n =>
        simp only [ast_sameArmN]
        dsimp only [ast_Arm.Tag, ast_Arm.Var, ast_Arm.Body]
        simp only [beq_self_eq_true, if_true, Option.bind_eq_bind, some_bind_id]
        exact (hb n).up
    · exact same_A r (by omega) x h n
end
theorem same_l {l : List ast_Stmt} (h : szL l ≤ 400000000000) : ast_Stmt__ast_sameStmt l l = some true := Sn.unf fun n => stmts_of h (same_L l h) n
theorem same_strs {l : List ByteArray} (h : l.length ≤ 400000000000) : slices_Equal_string_string_ l l = some true := by
  unfold slices_Equal_string_string_
  rw [eqloop_f (body := slices_Equal_string_string__l1 l l) l false (by omega) (fun i x hx hm hlt hw => by
    unfold slices_Equal_string_string__l1
    rw [if_pos (by simpa using hlt), hx]
    simp [hw]) (by unfold slices_Equal_string_string__l1; rw [if_neg (by simp)])]
  simp
theorem same_moves {l : List ast_Move} (h : l.length ≤ 400000000000) : ast_Move_ l l = some true := by
  unfold ast_Move_
  rw [eqloop_f (body := ast_Move__l1 l l) l false (by omega) (fun i x hx hm hlt hw => by
    unfold ast_Move__l1
    rw [if_pos (by simpa using hlt), hx]
    simp [hw]) (by unfold ast_Move__l1; rw [if_neg (by simp)])]
  simp
theorem same_sys {s : ast_System} (h : szSys s ≤ 400000000000) : ast_Same s s = some true := by
  have n1 := sumN_len (c := szCh) (fun x => by unfold szCh; omega) s.Chans
  have n2 := sumN_len (c := szR) (fun x => by unfold szR; omega) s.Rules
  have n3 := sumN_len (c := szP) (fun x => by unfold szP; omega) s.Procs
  unfold szSys at h
  have e1 : ast_Rule__ast_Same_1 s.Rules s.Rules = some true := by
    unfold ast_Rule__ast_Same_1
    rw [eqloop_f (body := ast_Rule__ast_Same_1_l1 s.Rules s.Rules) s.Rules false (by omega) (fun i x hx hm hlt hw => by
      have hz := sumN_mem (c := szR) hm
      unfold szR at hz
      unfold ast_Rule__ast_Same_1_l1 ast_Same_1
      rw [if_pos (by simpa using hlt), hx]
      simp only [Option.bind_eq_bind, Option.bind_some]
      rw [same_moves (by unfold szR at h; omega)]
      simp [hw]) (by unfold ast_Rule__ast_Same_1_l1; rw [if_neg (by simp)])]
    simp
  have e2 : ast_Proc__ast_Same_2 s.Procs s.Procs = some true := by
    unfold ast_Proc__ast_Same_2
    rw [eqloop_f (body := ast_Proc__ast_Same_2_l1 s.Procs s.Procs) s.Procs false (by omega) (fun i x hx hm hlt hw => by
      have hz := sumN_mem (c := szP) hm
      unfold szP at hz
      unfold ast_Proc__ast_Same_2_l1 ast_Same_2
      rw [if_pos (by simpa using hlt), hx]
      simp only [Option.bind_eq_bind, Option.bind_some]
      rw [same_strs (by unfold szP at h; omega), same_l (by unfold szP at h; omega)]
      simp [hw]) (by unfold ast_Proc__ast_Same_2_l1; rw [if_neg (by simp)])]
    simp
  have e3 : ast_Chan__ast_sameChan s.Chans s.Chans = some true := by
    unfold ast_Chan__ast_sameChan
    rw [eqloop_f (body := ast_Chan__ast_sameChan_l1 s.Chans s.Chans) s.Chans false (by omega) (fun i x hx hm hlt hw => by
      have hz := sumN_mem (c := szCh) hm
      unfold szCh at hz
      unfold ast_Chan__ast_sameChan_l1 ast_sameChan
      rw [if_pos (by simpa using hlt), hx]
      simp only [Option.bind_eq_bind, Option.bind_some]
      rw [same_strs (by unfold szCh at h; omega)]
      simp [hw]) (by unfold ast_Chan__ast_sameChan_l1; rw [if_neg (by simp)])]
    simp
  unfold ast_Same
  rw [e1, e2, e3]
  simp
end Go.Proofs.YtaaihamelknhdaaGreatDoor.Abs.Wri
/- AstExprs, AstTexts: the plain laws. -/
namespace Go.Proofs.YtaaihamelknhdaaGreatDoor.Abs.Wri
open Go Go.RowKit
set_option linter.unusedVariables false
set_option linter.unusedSimpArgs false
def exP (e : r02_Expr) : r02_System := (r02_System.mk [] [] [(r02_Proc.mk (ByteArray.mk #[112]) [] [(r02_Stmt.mk 1 (ByteArray.mk #[120]) (ByteArray.mk #[]) e (r02_Cond.mk 0 (r02_Expr.mk 0 0 (ByteArray.mk #[]) []) (r02_Expr.mk 0 0 (ByteArray.mk #[]) [])) [] [] [])])])
theorem exP_ok {e : r02_Expr} (h : okE (cE e)) : okSys (cSys (exP e)) := by
  have z0 : (ByteArray.mk #[]).size ≤ 4194304 := by decide
  have z1 : (ByteArray.mk #[112]).size ≤ 4194304 := by decide
  have z2 : (ByteArray.mk #[120]).size ≤ 4194304 := by decide
  simp only [exP, cSys, cPr, cL, cS, cE, cEs, cC, cA, okSys, okP, okL, okS, okE, okEs, okC, okA, in64, List.map_nil, List.map_cons, List.mem_cons, List.not_mem_nil, or_false, forall_eq, z0, z1, z2, h]
  simp
theorem exP_sz (e : r02_Expr) : szSys (cSys (exP e)) ≤ szE (cE e) + 100 := by
  simp [exP, cSys, cPr, cL, cS, cE, cEs, cC, cA, szSys, sumN, szP, szL, szS, szE, szEs, szC, szA]; omega
theorem endW_len (x : Wr) : (endW x).1.length ≤ 2000 := by
  unfold endW
  split
  · simp
  · split
    · simp
    · split
      · simp
      · show x.ws.length ≤ 2000; omega
theorem exprs_law {e : r02_Expr} (ho : okE (cE e)) (hz : szE (cE e) ≤ 100000000) : l02_AstExprs e = some true := by
  unfold l02_AstExprs
  have hs := exP_sz e
  have hok := exP_ok ho
  show (l02_System (exP e)).bind (fun v1 => (ast_Words v1).bind fun v2 => (r02_Words (exP e)).bind fun v3 => _) = _
  rw [sys_cv (by omega)]
  simp only [Option.bind_some]
  rw [words_f hok (by omega), words_r hok (by omega), texts_f]
  simp only [Option.bind_some]
  have hlen := endW_len (sSys (cSys (exP e)))
  generalize endW (sSys (cSys (exP e))) = v at hlen
  have e1 : (v.2 != v.2) = false := by simp
  have e2 : (((v.1.length : Nat) : Int) != ((v.1.length : Nat) : Int)) = false := by simp
  simp only [Option.bind_eq_bind, Option.bind_some, Bool.not_true, Bool.false_eq_true, if_false, e1, e2]
  rw [eqloop_f (body := l02_AstExprs_l2 v v) v.1 false (by omega) (fun i x hx hm hlt hw => by
    unfold l02_AstExprs_l2
    rw [if_pos (by simpa using hlt), hx]
    simp [hw]) (by unfold l02_AstExprs_l2; rw [if_neg (by simp)])]
  rfl
theorem textL_app (l m : List ByteArray) : textL (l ++ m) = textL l ++ textL m := by simp [textL]
theorem textL_take : ∀ (l : List ByteArray) (i : Nat), (textL (l.take i)).length ≤ (textL l).length := fun l i => by
  have : textL l = textL (l.take i) ++ textL (l.drop i) := by rw [← textL_app, List.take_append_drop]
  rw [this, List.length_append]; omega
theorem text_it {v w : List ByteArray × Int} (hv : v = w) (hl : w.1.length ≤ 2000) (ht : (textL w.1).length ≤ 140737488355328) : ∀ (m : List ByteArray) (i : Nat), w.1.drop i = m → i ≤ w.1.length → iter (l02_AstTexts_l2 v w) (bA (textL (w.1.take i)), (i : Int)) = some (.inr (bA (textL w.1))) := by
  subst hv
  intro m
  induction m with
  | nil =>
    intro i hd hi
    have : i = v.1.length := by have := List.drop_eq_nil_iff.1 hd; omega
    subst this
    rw [List.take_length]
    refine iter_out ?_
    unfold l02_AstTexts_l2
    rw [if_neg (by simp)]
  | cons x m ih =>
    intro i hd hi
    have hlt : i < v.1.length := by
      refine Nat.lt_of_not_le fun h => ?_
      rw [List.drop_of_length_le h] at hd; cases hd
    have hd0 := hd
    rw [List.drop_eq_getElem_cons hlt] at hd
    injection hd with h1 h2
    have hx : idx v.1 (i : Int) = some x := by rw [idx_ok hlt, h1]
    have htk : v.1.take (i + 1) = v.1.take i ++ [x] := by rw [List.take_add_one, List.getElem?_eq_getElem hlt, h1]; rfl
    have hle := textL_take v.1 (i + 1)
    have hT : textL (v.1.take (i + 1)) = textL (v.1.take i) ++ x.data.toList ++ [32] := by rw [htk, textL_app]; simp [textL]
    have hxb := size_list x
    rw [hT] at hle
    simp only [List.length_append, List.length_cons, List.length_nil] at hle
    have hbody : l02_AstTexts_l2 v v (bA (textL (v.1.take i)), (i : Int)) = some (.inl (bA (textL (v.1.take (i + 1))), ((i + 1 : Nat) : Int))) := by
      unfold l02_AstTexts_l2
      rw [if_pos (by simpa using hlt), hx]
      have s1 : scat (bA (textL (v.1.take i))) x = some (bA (textL (v.1.take i) ++ x.data.toList)) := scat_bA (b := x.data.toList) (by omega)
      have s2 : scat (bA (textL (v.1.take i) ++ x.data.toList)) (ByteArray.mk #[32]) = some (bA (textL (v.1.take i) ++ x.data.toList ++ [32])) := scat_bA (b := [32]) (by simp; omega)
      simp only [Option.bind_eq_bind, Option.bind_some, beq_self_eq_true, Bool.not_true, Bool.false_eq_true, if_false, s1, s2, wsucc (i := i) (by omega), hT]
    rw [iter_in hbody]
    exact ih (i + 1) h2 hlt
theorem texts_law {s : r02_System} (ho : okSys (cSys s)) (hz : szSys (cSys s) ≤ 100000000) : l02_AstTexts s = some true := by
  unfold l02_AstTexts
  rw [sys_cv (by omega)]
  simp only [Option.bind_eq_bind, Option.bind_some]
  rw [words_f ho (by omega), words_r ho (by omega), text_f ho (by omega), texts_f]
  simp only [Option.bind_some]
  have hlen := endW_len (sSys (cSys s))
  have hfit := text_fits ho
  generalize endW (sSys (cSys s)) = v at hlen hfit
  have e1 : (v.2 != v.2) = false := by simp
  have e2 : (((v.1.length : Nat) : Int) != ((v.1.length : Nat) : Int)) = false := by simp
  simp only [Option.bind_some, Bool.not_true, Bool.false_eq_true, if_false, e1, e2]
  have hit := text_it (v := v) (w := v) rfl hlen hfit v.1 0 rfl (by omega)
  have hit' : iter (l02_AstTexts_l2 v v) (ByteArray.mk #[], 0) = some (.inr (bA (textL v.1))) := hit
  rw [hit']
  have e3 : ((textB v.1).toList == (bA (textL v.1)).toList) = true := by
    show ((bA (textL v.1)).toList == (bA (textL v.1)).toList) = true
    simp
  simp only [Option.bind_some, Sum.elim_inr, e3, if_true]
  rw [same_sys (by omega)]
  rfl
end Go.Proofs.YtaaihamelknhdaaGreatDoor.Abs.Wri
