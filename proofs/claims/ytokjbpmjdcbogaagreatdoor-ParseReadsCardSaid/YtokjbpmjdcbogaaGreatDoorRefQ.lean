/- The reference's Lex, as it is printed, comes to what lexing is, of all texts of at most 4,194,304 bytes; its name is the program's. -/
import Derived.Test.YtokjbpmjdcbogaaGreatDoorPlA
namespace Go.Proofs.YtokjbpmjdcbogaaGreatDoor.Abs.Wri
open Go Go.RowKit
set_option linter.unusedVariables false
set_option linter.unusedSimpArgs false
/-! ### Loops over a list -/
theorem wsucc {i : Nat} (h : i < 4611686018427387904) : IntKind.i64.wrap ((i : Int) + 1) = ((i + 1 : Nat) : Int) := by rw [w64 (by omega) (by omega)]; omega
/-- A loop that ends at the first that isn't. -/
theorem allloop' {β O : Type} {body : Int → Option (Sum Int (Sum O Unit))} {n H : Nat} (l : List β) (p : β → Bool) (r : O) (hlen : l.length ≤ 4611686018427387904)
    (hs : ∀ (i : Nat) (x : β), l[i]? = some x → idx l (i : Int) = some x → x ∈ l → i < l.length → IntKind.i64.wrap ((i : Int) + 1) = ((i + 1 : Nat) : Int) → Sn n H (body (i : Int)) (if p x then .inl ((i + 1 : Nat) : Int) else .inr (.inl r)))
    (he : body (l.length : Int) = some (.inr (.inr ()))) : ∀ (m : List β) (i : Nat), l.drop i = m → i ≤ l.length → Sn n H (iter body (i : Int)) (if m.all p then .inr () else .inl r) := by
  intro m
  induction m with
  | nil =>
    intro i hd hi
    have : i = l.length := by have := List.drop_eq_nil_iff.1 hd; omega
    subst this
    exact .inl (by rw [iter_out he]; rfl)
  | cons x m ih =>
    intro i hd hi
    have hlt : i < l.length := by
      refine Nat.lt_of_not_le fun h => ?_
      rw [List.drop_of_length_le h] at hd; cases hd
    rw [List.drop_eq_getElem_cons hlt] at hd
    injection hd with h1 h2
    have h3 := hs i x (by rw [← h1]; exact List.getElem?_eq_getElem hlt) (by rw [idx_ok hlt, h1]) (by rw [← h1]; exact List.getElem_mem hlt) hlt (wsucc (by omega))
    rw [iter_eq]
    refine Sn.bind (f := _) h3 ?_
    cases hp : p x with
    | true =>
      have h4 := ih (i + 1) h2 hlt
      simp only [List.all_cons, hp, Bool.true_and, if_true]
      exact h4
    | false =>
      simp only [List.all_cons, hp, Bool.false_and, Bool.false_eq_true, if_false]
      exact .inl rfl
theorem allloop {β O : Type} {body : Int → Option (Sum Int (Sum O Unit))} {n H : Nat} (l : List β) (p : β → Bool) (r : O) (hlen : l.length ≤ 4611686018427387904)
    (hs : ∀ (i : Nat) (x : β), l[i]? = some x → idx l (i : Int) = some x → x ∈ l → i < l.length → IntKind.i64.wrap ((i : Int) + 1) = ((i + 1 : Nat) : Int) → Sn n H (body (i : Int)) (if p x then .inl ((i + 1 : Nat) : Int) else .inr (.inl r)))
    (he : body (l.length : Int) = some (.inr (.inr ()))) : Sn n H (iter body 0) (if l.all p then .inr () else .inl r) := allloop' l p r hlen hs he l 0 rfl (by omega)
theorem allloop_f {β O : Type} {body : Int → Option (Sum Int (Sum O Unit))} (l : List β) (p : β → Bool) (r : O) (hlen : l.length ≤ 4611686018427387904)
    (hs : ∀ (i : Nat) (x : β), l[i]? = some x → idx l (i : Int) = some x → x ∈ l → i < l.length → IntKind.i64.wrap ((i : Int) + 1) = ((i + 1 : Nat) : Int) → body (i : Int) = some (if p x then .inl ((i + 1 : Nat) : Int) else .inr (.inl r)))
    (he : body (l.length : Int) = some (.inr (.inr ()))) : iter body 0 = some (if l.all p then .inr () else .inl r) := by
  rcases allloop (n := 0) (H := 0) l p r hlen (fun i x h1 h2 h3 h4 h5 => .inl (hs i x h1 h2 h3 h4 h5)) he with h | ⟨_, h⟩
  · exact h
  · omega
/-! ### Letters, digits, reserved words -/
theorem letter_r (b : UInt8) : r01_letter (b.toNat : Int) = some (isL b) := by
  unfold r01_letter isL
  by_cases h : 97 ≤ b.toNat
  · rw [if_pos (by simp; omega)]; simp only [h, decide_true, Bool.true_and]; exact congrArg some (decide_eq_decide.mpr (by omega))
  · rw [if_neg (by simp; omega)]; simp only [h, decide_false, Bool.false_and]
theorem digit_r (b : UInt8) : r01_digit (b.toNat : Int) = some (isD b) := by
  unfold r01_digit isD
  by_cases h : 48 ≤ b.toNat
  · rw [if_pos (by simp; omega)]; simp only [h, decide_true, Bool.true_and]; exact congrArg some (decide_eq_decide.mpr (by omega))
  · rw [if_neg (by simp; omega)]; simp only [h, decide_false, Bool.false_and]
def resvB : List ByteArray := [(ByteArray.mk #[99, 104, 97, 110]), (ByteArray.mk #[98, 108, 111, 99, 107]), (ByteArray.mk #[100, 114, 111, 112]), (ByteArray.mk #[108, 111, 115, 115, 121]), (ByteArray.mk #[102, 114, 111, 109]), (ByteArray.mk #[116, 111]), (ByteArray.mk #[114, 117, 108, 101]), (ByteArray.mk #[112, 114, 111, 99]), (ByteArray.mk #[118, 97, 114]), (ByteArray.mk #[105, 102]), (ByteArray.mk #[101, 108, 115, 101]), (ByteArray.mk #[119, 104, 105, 108, 101]), (ByteArray.mk #[115, 101, 110, 100]), (ByteArray.mk #[114, 101, 99, 118]), (ByteArray.mk #[97, 115, 115, 101, 114, 116]), (ByteArray.mk #[105, 110, 112, 117, 116])]
theorem resvB_map : resvB.map (·.data.toList) = resv := rfl
theorem reserved_r (s : ByteArray) : r01_Reserved s = some (decide (s.data.toList ∈ resv)) := by
  unfold r01_Reserved
  show (iter (r01_Reserved_l1 s resvB) 0).bind _ = _
  rw [allloop_f (body := r01_Reserved_l1 s resvB) resvB (fun x => !(x.toList == s.toList)) true (by decide) (fun i x h0 h1 h2 h3 h4 => by
      unfold r01_Reserved_l1
      rw [if_pos (by simpa using h3), h1]
      simp only [Option.bind_eq_bind, Option.bind_some, h4]
      cases (x.toList == s.toList) <;> rfl) (by unfold r01_Reserved_l1; rw [if_neg (by simp)])]
  simp only [Option.bind_some]
  have e : resvB.all (fun x => !(x.toList == s.toList)) = !decide (s.data.toList ∈ resv) := by
    rw [Bool.eq_iff_iff, List.all_eq_true, ← resvB_map]
    simp only [Bool.not_eq_true', beq_eq_false_iff_ne, decide_eq_false_iff_not, List.mem_map, not_exists, not_and, Go.ByteArray.toList_eq]
  rw [e]
  cases decide (s.data.toList ∈ resv) <;> rfl
/-! ### sign -/
def twoB : List ByteArray := [(ByteArray.mk #[61, 61]), (ByteArray.mk #[33, 61]), (ByteArray.mk #[60, 61]), (ByteArray.mk #[62, 61])]
def oneB : ByteArray := ByteArray.mk #[123, 125, 40, 41, 59, 44, 46, 61, 60, 62, 43, 45, 42, 47, 37]
theorem sign_r (s : ByteArray) (hs : s.size ≤ 4194304) (p : Nat) (hp : p < s.size) : r01_sign s (p : Int) = some ((signL (s.data.toList.drop p) : Nat) : Int) := by
  have hl : p < s.data.toList.length := by rw [size_list]; omega
  have e := List.drop_eq_getElem_cons hl
  have hb := bidx_get s p hl
  generalize s.data.toList[p] = a at e hb
  have hw : IntKind.i64.wrap ((p : Int) + 2) = ((p + 2 : Nat) : Int) := by rw [w64 (by omega) (by omega)]; omega
  have h1 := allloop_f (body := r01_sign_l1 s (p : Int)) twoB (fun x => !(decide (p + 2 ≤ s.size) && ((s.extract p (p + 2)).toList == x.toList))) 2 (by decide) (fun i x h0 h1 h2 h3 h4 => by
      unfold r01_sign_l1
      have h3' : (i : Int) < 4 := by have : i < 4 := h3; omega
      rw [if_pos (by simpa using h3'), hw, h4]
      have h1' : idx [(ByteArray.mk #[61, 61]), (ByteArray.mk #[33, 61]), (ByteArray.mk #[60, 61]), (ByteArray.mk #[62, 61])] (i : Int) = some x := h1
      by_cases h2 : p + 2 ≤ s.size
      · rw [if_pos (by simp only [decide_eq_true_eq]; omega), ssub_ok (by omega) h2]
        simp only [Option.bind_eq_bind, Option.bind_some, h1', h2, decide_true, Bool.true_and]
        cases ((s.extract p (p + 2)).toList == x.toList) <;> rfl
      · rw [if_neg (by simp only [decide_eq_true_eq]; omega)]
        simp only [Option.bind_eq_bind, Option.bind_some, h2, decide_false, Bool.false_and]
        rfl) (by unfold r01_sign_l1; rfl)
  have h2 := allloop_f (body := r01_sign_l3 s (p : Int)) ones (fun x => !(decide (x = a))) 1 (by decide) (fun i x h0 h1 h2 h3 h4 => by
      unfold r01_sign_l3
      have h3' : i < 15 := h3
      have hsz : (ByteArray.mk #[123, 125, 40, 41, 59, 44, 46, 61, 60, 62, 43, 45, 42, 47, 37]).size = 15 := rfl
      have hbi : bidx (ByteArray.mk #[123, 125, 40, 41, 59, 44, 46, 61, 60, 62, 43, 45, 42, 47, 37]) (i : Int) = some (x.toNat : Int) := by
        have := bidx_get oneB i h3
        have hx : oneB.data.toList[i]'h3 = x := by
          have : ones[i]? = some (oneB.data.toList[i]'h3) := List.getElem?_eq_getElem (l := ones) h3
          rw [h0] at this; injection this with this; exact this.symm
        rw [hx] at this; exact this
      rw [hsz, if_pos (by simp only [decide_eq_true_eq]; omega), hbi]
      simp only [Option.bind_eq_bind, Option.bind_some, hb, h4]
      by_cases hx : x = a
      · subst hx; simp
      · have : ¬ ((x.toNat : Int) = (a.toNat : Int)) := fun h => hx (UInt8.toNat_inj.mp (by omega))
        have h2 : ((x.toNat : Int) == (a.toNat : Int)) = false := by simpa using this
        rw [h2]
        simp [hx]) (by unfold r01_sign_l3; rfl)
  unfold r01_sign
  rw [h1]
  have e1 : twoB.all (fun x => !(decide (p + 2 ≤ s.size) && ((s.extract p (p + 2)).toList == x.toList))) = !decide ((s.data.toList.drop p)[1]? = some 61 ∧ (s.data.toList.drop p).head? ∈ twos.map some) := by
    rw [Bool.eq_iff_iff]
    have hlen : (s.data.toList.drop p).length = s.size - p := by rw [List.length_drop, size_list]
    have htd : (s.extract p (p + 2)).data.toList = (s.data.toList.drop p).take 2 := by rw [ext_list, List.drop_take]; congr 1; omega
    simp only [Go.ByteArray.toList_eq, htd, e] at hlen ⊢
    cases hr : List.drop (p + 1) s.data.toList with
    | nil =>
      rw [hr] at hlen
      simp only [List.length_cons, List.length_nil] at hlen
      have : ¬ (p + 2 ≤ s.size) := by omega
      simp [this]
    | cons c r =>
      rw [hr] at hlen
      simp only [List.length_cons] at hlen
      have : p + 2 ≤ s.size := by omega
      simp only [this, decide_true, Bool.true_and, twoB, List.all_cons, List.all_nil, Bool.and_true, List.take_succ_cons, List.take_zero, List.getElem?_cons_succ, List.getElem?_cons_zero, List.head?_cons, twos, List.map_cons, List.map_nil, List.mem_cons, List.not_mem_nil, or_false, Option.some.injEq, Bool.and_eq_true, Bool.not_eq_true', beq_eq_false_iff_ne, decide_eq_false_iff_not, ne_eq, List.cons.injEq, and_true]
      constructor
      · rintro ⟨h1, h2, h3, h4⟩ ⟨h5, h6⟩
        subst h5
        simp only [and_true] at h1 h2 h3 h4
        rcases h6 with h | h | h | h
        · exact h1 h
        · exact h2 h
        · exact h3 h
        · exact h4 h
      · intro h
        refine ⟨fun g => h ⟨g.2, .inl g.1⟩, fun g => h ⟨g.2, .inr (.inl g.1)⟩, fun g => h ⟨g.2, .inr (.inr (.inl g.1))⟩, fun g => h ⟨g.2, .inr (.inr (.inr g.1))⟩⟩
  have e2 : ones.all (fun x => !(decide (x = a))) = !decide ((s.data.toList.drop p).head? ∈ ones.map some) := by
    rw [Bool.eq_iff_iff, e]
    simp only [List.all_eq_true, List.head?_cons, List.mem_map, Option.some.injEq, exists_eq_right, Bool.not_eq_true', decide_eq_false_iff_not]
    constructor
    · intro h h2; exact h a h2 rfl
    · rintro h x hx rfl; exact h hx
  rw [e1]
  unfold signL
  by_cases g : (s.data.toList.drop p)[1]? = some 61 ∧ (s.data.toList.drop p).head? ∈ twos.map some
  · rw [if_pos g]; simp only [g, and_self, decide_true]; rfl
  · rw [if_neg g]
    simp only [g, decide_false, Bool.not_false, if_true, Option.bind_eq_bind, Option.bind_some, Sum.elim_inr]
    rw [h2, e2]
    by_cases g2 : (s.data.toList.drop p).head? ∈ ones.map some
    · rw [if_pos g2]; simp only [g2, decide_true]; rfl
    · rw [if_neg g2]; simp only [g2, decide_false]; rfl
/-! ### Lex -/
def tokR (t : Tok) : r01_Token := ⟨t.kind, ⟨t.text.toArray⟩, (t.num : Int), (t.at_ : Int)⟩
def finR (size : Nat) (z : List Tok × Option (Nat × Int)) : List r01_Token × Int × Int :=
  ((told size z).1.map tokR, (told size z).2.1, (told size z).2.2)
theorem run_r (s : ByteArray) (hs : s.size ≤ 4194304) (b : UInt8) (hA : isA b = true) : ∀ (d i : Nat), s.size - i = d → i ≤ s.size →
    iter (r01_Lex_l3 s (b.toNat : Int)) (i : Int) = some (.inr ((i + runL (s.data.toList.drop i) : Nat) : Int)) := by
  intro d
  induction d with
  | zero =>
    intro i hd hi
    refine iter_out ?_
    unfold r01_Lex_l3
    rw [if_neg (by simp; omega), List.drop_of_length_le (by rw [size_list]; omega)]
    simp [runL]
  | succ d ih =>
    intro i hd hi
    have hl : i < s.data.toList.length := by rw [size_list]; omega
    have e := List.drop_eq_getElem_cons hl
    have hb := bidx_get s i hl
    generalize s.data.toList[i] = c at e hb
    have hw := wsucc (i := i) (by omega)
    have IH := ih (i + 1) (by omega) (by omega)
    have hlt : (decide ((i : Int) < (s.size : Int))) = true := by simp; omega
    have hbody : r01_Lex_l3 s (b.toNat : Int) (i : Int) = some (if isA c then .inl ((i + 1 : Nat) : Int) else .inr (.inr (i : Int))) := by
      unfold r01_Lex_l3
      rw [if_pos hlt]
      simp only [hb, Option.bind_eq_bind, Option.bind_some, letter_r, digit_r, hw]
      unfold isA at hA ⊢
      cases hL : isL b
      · rw [hL] at hA
        simp only [Bool.false_or] at hA
        rw [hA]
        cases isL c <;> cases isD c <;> rfl
      · cases isL c <;> cases isD c <;> rfl
    rw [e, runL_cons]
    by_cases hc : isA c = true
    · rw [if_pos hc]
      rw [if_pos hc] at hbody
      rw [iter_in hbody, IH]
      congr 2; omega
    · rw [if_neg hc]
      rw [if_neg hc] at hbody
      rw [iter_out hbody]; rfl
theorem run_r0 (s : ByteArray) (b : UInt8) (hA : isA b = false) (i : Nat) (hi : i < s.size) : iter (r01_Lex_l3 s (b.toNat : Int)) (i : Int) = some (.inr (i : Int)) := by
  refine iter_out ?_
  unfold r01_Lex_l3
  unfold isA at hA
  rw [Bool.or_eq_false_iff] at hA
  rw [if_pos (by simp; omega)]
  simp only [Option.bind_eq_bind, Option.bind_some, letter_r, digit_r, hA.1, hA.2]
  rfl
theorem dval_app (t : Bs) (b : UInt8) : dval (t ++ [b]) = 10 * dval t + (b.toNat - 48) := by simp [dval, List.foldl_append]
theorem num_r (v : ByteArray) (x1 : Int × List r01_Token) (hv : v.size ≤ 10) : iter (r01_Lex_l7 v x1) (0, 0) = some (if v.data.toList.all isD then .inr ((dval v.data.toList : Nat) : Int) else .inl ([], x1.1, 3)) := by
  have step : ∀ (d i : Nat), v.size - i = d → i ≤ v.size → (v.data.toList.take i).all isD = true → iter (r01_Lex_l7 v x1) ((i : Int), ((dval (v.data.toList.take i) : Nat) : Int)) = some (if v.data.toList.all isD then .inr ((dval v.data.toList : Nat) : Int) else .inl ([], x1.1, 3)) := by
    intro d
    induction d with
    | zero =>
      intro i hd hi ha
      have : i = v.size := by omega
      subst this
      rw [List.take_of_length_le (by rw [size_list]; omega)] at ha ⊢
      rw [if_pos ha]
      refine iter_out ?_
      unfold r01_Lex_l7
      rw [if_neg (by simp)]
    | succ d ih =>
      intro i hd hi ha
      have hl : i < v.data.toList.length := by rw [size_list]; omega
      have hb := bidx_get v i hl
      have htk : v.data.toList.take (i + 1) = v.data.toList.take i ++ [v.data.toList[i]] := by
        rw [List.take_add_one, List.getElem?_eq_getElem hl]; rfl
      have hmem : v.data.toList[i] ∈ v.data.toList := List.getElem_mem hl
      generalize v.data.toList[i] = c at hb htk hmem
      have hlt := foldl_lt (v.data.toList.take i) (fun b hb => List.all_eq_true.1 ha b hb) 0
      have hlen : (v.data.toList.take i).length ≤ 9 := by rw [List.length_take, size_list]; omega
      have hpow : (10 : Nat) ^ (v.data.toList.take i).length ≤ 1000000000 := by
        have := Nat.pow_le_pow_right (n := 10) (by omega) hlen
        have : (10 : Nat) ^ 9 = 1000000000 := by decide
        omega
      have hdv : dval (v.data.toList.take i) < 1000000000 := by rw [dval_eq]; omega
      have hbody : r01_Lex_l7 v x1 ((i : Int), ((dval (v.data.toList.take i) : Nat) : Int)) = some (if isD c then .inl (((i + 1 : Nat) : Int), ((dval (v.data.toList.take (i + 1)) : Nat) : Int)) else .inr (.inl ([], x1.1, 3))) := by
        unfold r01_Lex_l7
        rw [if_pos (by simp; omega)]
        simp only [hb, Option.bind_eq_bind, Option.bind_some, digit_r]
        cases hD : isD c
        · rfl
        · simp only [Bool.not_true, Bool.false_eq_true, if_false, if_true]
          simp only [isD, Bool.and_eq_true, decide_eq_true_eq] at hD
          rw [wsucc (i := i) (by omega), w8u (n := (c.toNat : Int) - 48) (by omega) (by omega), w64 (n := (c.toNat : Int) - 48) (by omega) (by omega), w64 (n := 10 * ((dval (v.data.toList.take i) : Nat) : Int)) (by omega) (by omega), w64 (by omega) (by omega), htk, dval_app]
          congr 4
          omega
      by_cases hD : isD c = true
      · rw [if_pos hD] at hbody
        rw [iter_in hbody]
        exact ih (i + 1) (by omega) (by omega) (by rw [htk, List.all_append, ha]; simp [hD])
      · rw [if_neg hD] at hbody
        rw [iter_out hbody, if_neg]
        intro h
        exact hD (List.all_eq_true.1 h c hmem)
  have := step v.size 0 (by omega) (by omega) (by simp)
  simpa [dval] using this
theorem lex_body_r (s : ByteArray) (hs : s.size ≤ 4194304) (i : Nat) (b : UInt8) (r : Bs) (acc : List r01_Token) (e : s.data.toList.drop i = b :: r) (hi : i < s.size) (hB : isB b = false) (ha : acc.length ≤ i) :
    r01_Lex_l1 s ((i : Int), acc) = match word1 (b :: r) with
      | .error c => some (.inr (.inl ([], (i : Int), c)))
      | .ok w => some (.inl (((i + w.len : Nat) : Int), acc ++ [tokR ⟨w.kind, (b :: r).take w.len, w.num, i⟩])) := by
  have hl : i < s.data.toList.length := by rw [size_list]; omega
  have hb : bidx s (i : Int) = some (b.toNat : Int) := by
    rw [bidx_get s i hl]
    have := List.drop_eq_getElem_cons hl
    rw [e] at this; injection this with h1 h2; rw [← h1]
  have hlt : (decide ((i : Int) < (s.size : Int))) = true := by simp; omega
  have h32 : ((b.toNat : Int) == 32) = (b == 32) := by
    rw [Bool.eq_iff_iff, beq_iff_eq, beq_iff_eq]
    constructor
    · intro h; exact UInt8.toNat_inj.mp (by have : (32 : UInt8).toNat = 32 := rfl; omega)
    · rintro rfl; rfl
  have h10 : ((b.toNat : Int) == 10) = (b == 10) := by
    rw [Bool.eq_iff_iff, beq_iff_eq, beq_iff_eq]
    constructor
    · intro h; exact UInt8.toNat_inj.mp (by have : (10 : UInt8).toNat = 10 := rfl; omega)
    · rintro rfl; rfl
  have h48 : ((b.toNat : Int) == 48) = (b == 48) := by
    rw [Bool.eq_iff_iff, beq_iff_eq, beq_iff_eq]
    constructor
    · intro h; exact UInt8.toNat_inj.mp (by have : (48 : UInt8).toNat = 48 := rfl; omega)
    · rintro rfl; rfl
  have hJ : (if (b == 32) = true then some true else some (b == 10)) = some false := by
    unfold isB at hB
    rw [Bool.or_eq_false_iff] at hB
    rw [hB.1, hB.2]; rfl
  have hrl := runL_le (b :: r)
  have hlen : (b :: r).length = s.size - i := by rw [← e, List.length_drop, size_list]
  have cut : ∀ n, n ≤ (b :: r).length → ssub s (i : Int) ((i + n : Nat) : Int) = some (⟨((b :: r).take n).toArray⟩ : ByteArray) := fun n hn => by
    rw [ssub_ok (by omega) (by omega)]
    refine congrArg some (list_ext ?_)
    rw [ext_list, List.drop_take, e]
    simp
  have tsz : ∀ n, n ≤ (b :: r).length → ((⟨((b :: r).take n).toArray⟩ : ByteArray)).size = n := fun n hn => by
    rw [← size_list]; simp only [List.length_take]; omega
  have tok : ∀ (k : Int) (n m : Nat), n ≤ (b :: r).length → app 40 acc [(r01_Token.mk k ⟨((b :: r).take n).toArray⟩ (m : Int) (i : Int))] = some (acc ++ [tokR ⟨k, (b :: r).take n, m, i⟩]) := fun k n m hn => by
    rw [app_ok (by simp; omega)]; rfl
  unfold r01_Lex_l1
  rw [if_pos hlt]
  simp only [hb, Option.bind_eq_bind, Option.bind_some, h32, h10, hJ, Bool.false_eq_true, if_false]
  rw [word1_cons]
  by_cases hA : isA b = true
  · have hrun := run_r s hs b hA (s.size - i) i rfl (by omega)
    rw [e] at hrun
    rw [hrun]
    simp only [Option.bind_some, Sum.elim_inr, letter_r, digit_r, cut _ hrl]
    cases hL : isL b with
    | true =>
      simp only [if_true, reserved_r, Option.bind_some, tsz _ hrl]
      by_cases h12 : 12 < runL (b :: r)
      · rw [if_pos h12]
        have : decide ((runL (b :: r) : Int) > 12) = true := by simp; omega
        cases decide (((⟨((b :: r).take (runL (b :: r))).toArray⟩ : ByteArray)).data.toList ∈ resv) <;> simp [this]
      · rw [if_neg h12]
        have : decide ((runL (b :: r) : Int) > 12) = false := by simp; omega
        simp only [this, Bool.false_eq_true, if_false]
        by_cases hm : (b :: r).take (runL (b :: r)) ∈ resv
        · have hm' : decide (((⟨((b :: r).take (runL (b :: r))).toArray⟩ : ByteArray)).data.toList ∈ resv) = true := by simpa using hm
          rw [hm', if_pos hm]
          have := tok 4 (runL (b :: r)) 0 hrl
          simp only [Int.natCast_zero] at this
          simp [this]
        · have hm' : decide (((⟨((b :: r).take (runL (b :: r))).toArray⟩ : ByteArray)).data.toList ∈ resv) = false := by simpa using hm
          rw [hm', if_neg hm]
          have := tok 1 (runL (b :: r)) 0 hrl
          simp only [Int.natCast_zero] at this
          simp [this]
    | false =>
      have hD : isD b = true := by unfold isA at hA; rw [hL] at hA; simpa using hA
      simp only [Bool.false_eq_true, if_false, hD, if_true, Option.bind_some, tsz _ hrl, h48]
      have hpos := runL_pos (b := b) (l := r) hA
      have hhd : (((b :: r).take (runL (b :: r))).head? == some 48) = (b == 48) := by
        obtain ⟨n, hn⟩ : ∃ n, runL (b :: r) = n + 1 := ⟨runL (b :: r) - 1, by omega⟩
        rw [hn]
        simp only [List.take_succ_cons, List.head?_cons]
        rw [Bool.eq_iff_iff]; simp
      have htl : ((b :: r).take (runL (b :: r))).length = runL (b :: r) := by rw [List.length_take]; omega
      unfold okNum
      rw [hhd, htl]
      by_cases c10 : 10 < runL (b :: r)
      · have : decide ((runL (b :: r) : Int) > 10) = true := by simp; omega
        have h2 : decide (runL (b :: r) ≤ 10) = false := by simp; omega
        simp [this, h2]
      · have c10' : decide ((runL (b :: r) : Int) > 10) = false := by simp; omega
        have h2 : decide (runL (b :: r) ≤ 10) = true := by simp; omega
        have h1 : decide ((runL (b :: r) : Int) > 1) = decide (1 < runL (b :: r)) := decide_eq_decide.mpr (by omega)
        simp only [c10', h2, h1, Bool.false_eq_true, if_false, Bool.true_and]
        have hnum := num_r (⟨((b :: r).take (runL (b :: r))).toArray⟩ : ByteArray) ((i : Int), acc) (by rw [tsz _ hrl]; omega)
        simp only [List.toList_toArray] at hnum
        cases hz : (decide (1 < runL (b :: r)) && (b == 48)) with
        | true =>
          simp only [Bool.and_eq_true, decide_eq_true_eq] at hz
          simp [hz.1, hz.2]
        | false =>
          have hj : (if decide (1 < runL (b :: r)) = true then some (b == 48) else some false) = some false := by
            cases h3 : decide (1 < runL (b :: r))
            · rfl
            · rw [h3, Bool.true_and] at hz; rw [hz]; rfl
          rw [hj, hnum]
          simp only [Option.bind_some, Bool.false_eq_true, if_false, Bool.not_false, Bool.true_and]
          cases hall : ((b :: r).take (runL (b :: r))).all isD with
          | false => simp
          | true =>
            simp only [if_true, Sum.elim_inr, Bool.true_and]
            by_cases hv : dval ((b :: r).take (runL (b :: r))) ≤ 2147483647
            · have hv2 : decide (((dval ((b :: r).take (runL (b :: r))) : Nat) : Int) > 2147483647) = false := by simp; omega
              have := tok 2 (runL (b :: r)) (dval ((b :: r).take (runL (b :: r)))) hrl
              simp [hv, hv2, this]
            · have hv2 : decide (((dval ((b :: r).take (runL (b :: r))) : Nat) : Int) > 2147483647) = true := by simp; omega
              simp [hv, hv2]
  · have hA : isA b = false := by simpa using hA
    have hLD := hA
    unfold isA at hLD
    rw [Bool.or_eq_false_iff] at hLD
    rw [run_r0 s b hA i hi]
    have hsg := sign_r s hs i hi
    rw [e] at hsg
    have hsl := signL_le (b :: r)
    simp only [Option.bind_some, Sum.elim_inr, letter_r, digit_r, hLD.1, hLD.2, Bool.false_eq_true, if_false, hsg]
    have hw : IntKind.i64.wrap ((i : Int) + ((signL (b :: r) : Nat) : Int)) = ((i + signL (b :: r) : Nat) : Int) := by rw [w64 (by omega) (by omega)]; omega
    rw [hw, cut _ hsl]
    by_cases hz : signL (b :: r) = 0
    · rw [if_pos hz]
      simp [hz]
    · rw [if_neg hz]
      have : (((signL (b :: r) : Nat) : Int) == 0) = false := by simpa using hz
      have ht := tok 3 (signL (b :: r)) 0 hsl
      simp only [Int.natCast_zero] at ht
      simp [this, ht]
theorem lex_it_r (s : ByteArray) (hs : s.size ≤ 4194304) : ∀ (d i : Nat) (acc : List Tok), s.size - i = d → i ≤ s.size → acc.length ≤ i →
    (iter (r01_Lex_l1 s) ((i : Int), acc.map tokR) >>= Sum.elim (fun r => some r) (fun j1 => if (decide ((j1.length : Int) > 2000)) then (some ([], (s.size : Int), 4)) else (some (j1, 0, 0)))) = some (finR s.size (acc ++ (lexS (s.data.toList.drop i) i).1, (lexS (s.data.toList.drop i) i).2)) := by
  intro d
  induction d using Nat.strongRecOn with
  | _ d ih =>
  intro i acc hd hi ha
  by_cases hlt : i < s.size
  · have hl : i < s.data.toList.length := by rw [size_list]; omega
    have e := List.drop_eq_getElem_cons hl
    have hb := bidx_get s i hl
    generalize s.data.toList[i] = b at e hb
    rw [e]
    by_cases hB : isB b = true
    · have hbody : r01_Lex_l1 s ((i : Int), acc.map tokR) = some (.inl (((i + 1 : Nat) : Int), acc.map tokR)) := by
        have h32 : ((b.toNat : Int) == 32) = (b == 32) := by
          rw [Bool.eq_iff_iff, beq_iff_eq, beq_iff_eq]
          constructor
          · intro h; exact UInt8.toNat_inj.mp (by have : (32 : UInt8).toNat = 32 := rfl; omega)
          · rintro rfl; rfl
        have h10 : ((b.toNat : Int) == 10) = (b == 10) := by
          rw [Bool.eq_iff_iff, beq_iff_eq, beq_iff_eq]
          constructor
          · intro h; exact UInt8.toNat_inj.mp (by have : (10 : UInt8).toNat = 10 := rfl; omega)
          · rintro rfl; rfl
        have hJ : (if (b == 32) = true then some true else some (b == 10)) = some true := by
          unfold isB at hB
          cases h : (b == 32)
          · rw [h, Bool.false_or] at hB; rw [hB]; rfl
          · rfl
        unfold r01_Lex_l1
        rw [if_pos (by simp; omega)]
        simp only [hb, Option.bind_eq_bind, Option.bind_some, h32, h10, hJ, if_true, wsucc (i := i) (by omega)]
      rw [lexS_blank _ _ hB, iter_in hbody]
      exact ih (s.size - (i + 1)) (by omega) (i + 1) acc rfl (by omega) (by omega)
    · have hB' : isB b = false := by simpa using hB
      have hbody := lex_body_r s hs i b _ (acc.map tokR) e hlt hB' (by simpa using ha)
      cases hw1 : word1 (b :: s.data.toList.drop (i + 1)) with
      | error c =>
        rw [hw1] at hbody
        rw [iter_out hbody, lexS_error hB' hw1]
        rfl
      | ok w =>
        rw [hw1] at hbody
        have hlen := word1_len hw1
        have hlen2 : w.len ≤ s.size - i := by
          have := hlen.2
          rw [← e, List.length_drop, size_list] at this
          exact this
        have hd2 : (b :: s.data.toList.drop (i + 1)).drop w.len = s.data.toList.drop (i + w.len) := by
          rw [← e, List.drop_drop]
        have IH := ih (s.size - (i + w.len)) (by omega) (i + w.len) (acc ++ [(⟨w.kind, (b :: s.data.toList.drop (i + 1)).take w.len, w.num, i⟩ : Tok)]) rfl (by omega) (by simp; omega)
        rw [iter_in hbody, lexS_ok hB' hw1, hd2]
        simp only [List.map_append, List.map_cons, List.map_nil, List.append_assoc, List.cons_append, List.nil_append] at IH
        exact IH
  · have hnil : s.data.toList.drop i = [] := List.drop_of_length_le (by rw [size_list]; omega)
    rw [hnil, lexS_nil]
    rw [iter_out (r := .inr (acc.map tokR)) (by unfold r01_Lex_l1; rw [if_neg (by simp; omega)])]
    simp only [List.append_nil, finR, told, List.length_map, Option.bind_eq_bind, Option.bind_some, Sum.elim_inr]
    by_cases h2 : 2000 < acc.length
    · rw [if_pos (by simp; omega), if_pos h2]; rfl
    · rw [if_neg (by simp; omega), if_neg h2]
theorem lex_r (s : ByteArray) (hs : s.size ≤ 4194304) : r01_Lex s = some (finR s.size (lexS s.data.toList 0)) := by
  have := lex_it_r s hs s.size 0 [] (by omega) (by omega) (by simp)
  unfold r01_Lex
  rw [← show (iter (r01_Lex_l1 s) (0, []) >>= Sum.elim (fun r => some r) (fun j1 => if (decide ((j1.length : Int) > 2000)) then (some ([], (s.size : Int), 4)) else (some (j1, 0, 0)))) = some (finR s.size (lexS s.data.toList 0)) by simpa using this]
end Go.Proofs.YtokjbpmjdcbogaaGreatDoor.Abs.Wri
/- Of the reference: what may be is what the writer finds no fault with. -/
namespace Go.Proofs.YtokjbpmjdcbogaaGreatDoor.Abs.Wri
open Go Go.RowKit
set_option linter.unusedVariables false
set_option linter.unusedSimpArgs false
theorem some_bind_id {α : Type} (x : Option α) : (x.bind fun v => some v) = x := by cases x <;> rfl
/-! ### Expressions -/
/-! ### Statements -/
/-! ### Systems -/
end Go.Proofs.YtokjbpmjdcbogaaGreatDoor.Abs.Wri
/- Of the reference: how deep something is, is what the writer reckons. -/
namespace Go.Proofs.YtokjbpmjdcbogaaGreatDoor.Abs.Wri
open Go Go.RowKit
set_option linter.unusedVariables false
set_option linter.unusedSimpArgs false
/-! ### Statements -/
def mx (x y : Nat × Nat) : Nat × Nat := (max x.1 y.1, max x.2 y.2)
end Go.Proofs.YtokjbpmjdcbogaaGreatDoor.Abs.Wri
/- Of the reference: the words are those that the writer puts. -/
namespace Go.Proofs.YtokjbpmjdcbogaaGreatDoor.Abs.Wri
open Go Go.RowKit
set_option linter.unusedVariables false
set_option linter.unusedSimpArgs false
/-! ### Numbers -/
section
variable {F : r02_Expr → Option (List ByteArray)} {G : r02_Expr → Bool → Option (List ByteArray)}
end
/-! ### Expressions -/
/-! ### Loops that put words -/
/-! ### Statements -/
/-! ### Systems -/
end Go.Proofs.YtokjbpmjdcbogaaGreatDoor.Abs.Wri
/- The program finds each system the same as itself. -/
namespace Go.Proofs.YtokjbpmjdcbogaaGreatDoor.Abs.Wri
open Go Go.RowKit
set_option linter.unusedVariables false
set_option linter.unusedSimpArgs false
theorem eqloop {β O : Type} {body : Int → Option (Sum Int (Sum O Unit))} {n H : Nat} (l : List β) (r : O) (hlen : l.length ≤ 4611686018427387904)
    (hs : ∀ (i : Nat) (x : β), idx l (i : Int) = some x → x ∈ l → i < l.length → IntKind.i64.wrap ((i : Int) + 1) = ((i + 1 : Nat) : Int) → Sn n H (body (i : Int)) (.inl ((i + 1 : Nat) : Int)))
    (he : body (l.length : Int) = some (.inr (.inr ()))) : Sn n H (iter body 0) (.inr ()) := by
  have h := allloop (n := n) (H := H) l (fun _ => true) r hlen (fun i x h0 h1 h2 h3 h4 => by simpa using hs i x h1 h2 h3 h4) he
  have e : (l.all fun _ => true) = true := by simp
  rw [e] at h
  simpa using h
theorem eqloop_f {β O : Type} {body : Int → Option (Sum Int (Sum O Unit))} (l : List β) (r : O) (hlen : l.length ≤ 4611686018427387904)
    (hs : ∀ (i : Nat) (x : β), idx l (i : Int) = some x → x ∈ l → i < l.length → IntKind.i64.wrap ((i : Int) + 1) = ((i + 1 : Nat) : Int) → body (i : Int) = some (.inl ((i + 1 : Nat) : Int)))
    (he : body (l.length : Int) = some (.inr (.inr ()))) : iter body 0 = some (.inr ()) := by
  rcases eqloop (n := 0) (H := 0) l r hlen (fun i x h1 h2 h3 h4 => .inl (hs i x h1 h2 h3 h4)) he with h | ⟨_, h⟩
  · exact h
  · omega
theorem bne_self {n : Int} : (n != n) = false := by simp
/-! ### Expressions -/
theorem szEs_lenA : ∀ l : List ast_Expr, l.length ≤ szEs l
  | [] => by simp
  | e :: r => by have := szEs_lenA r; have := szE_pos e; simp only [szEs, List.length_cons]; omega
theorem szEs_memA : ∀ {l : List ast_Expr} {x : ast_Expr}, x ∈ l → szE x ≤ szEs l
  | y :: r, x, h => by
    rcases List.mem_cons.1 h with rfl | h
    · simp only [szEs]; omega
    · have := szEs_memA h; simp only [szEs]; omega
mutual
theorem same_E : ∀ (e : ast_Expr), szE e ≤ 400000000000 → ∀ n, Sn n (2 * szE e) (ast_sameExprN n e e) true
  | ⟨k, m, s, l⟩, hz, n => by
    simp only [szE] at hz ⊢
    have hm := same_Es l (by omega)
    have hl := szEs_lenA l
    have hL : ∀ n, Sn n (2 * szEs l + 1) (ast_Expr__ast_sameExprN n l l) true := fun n => by
      cases n with
      | zero => exact .inr ⟨rfl, by omega⟩
      | succ n =>
        simp only [ast_Expr__ast_sameExprN, bne_self, Bool.false_eq_true, if_false]
        refine (Sn.bind (f := Sum.elim (fun r => some r) (fun j1 => some true)) (eqloop (O := Bool) (body := ast_Expr__ast_sameExpr_l1 (ast_sameExprN n) (ast_Expr__ast_sameExprN n) l l) (n := n) (H := 2 * szEs l) l false (by omega) (fun i x hx hxm hlt hw => by
          unfold ast_Expr__ast_sameExpr_l1
          rw [if_pos (by simpa using hlt), hx]
          simp only [Option.bind_eq_bind, Option.bind_some, hw]
          have := szEs_memA hxm
          exact Sn.bind (f := _) ((hm x hxm n).mono (by omega)) (.inl rfl)) (by unfold ast_Expr__ast_sameExpr_l1; rw [if_neg (by simp)])) (.inl rfl)).up
    cases n with
    | zero => exact .inr ⟨rfl, by omega⟩
    | succ n =>
      have hj : ((if (k != k) = true then some true else if (k == 1) = true then (if (m != m) = true then some true else if (k == 2) = true then some (!(s.toList == s.toList)) else some false) else if (k == 2) = true then some (!(s.toList == s.toList)) else some false) : Option Bool) = some false := by
        cases (k == 1) <;> cases (k == 2) <;> simp
      simp only [ast_sameExprN, hj, Option.bind_eq_bind, Option.bind_some, Bool.false_eq_true, if_false, some_bind_id]
      exact (hL n).up.mono (by omega)
theorem same_Es : ∀ (l : List ast_Expr), szEs l ≤ 400000000000 → ∀ x ∈ l, ∀ n, Sn n (2 * szE x) (ast_sameExprN n x x) true
  | [], hz, x, h, n => by cases h
  | e :: r, hz, x, h, n => by
    simp only [szEs] at hz
    rcases List.mem_cons.1 h with h | h
    · rw [h]; exact same_E e (by omega) n
    · exact same_Es r (by omega) x h n
end
theorem same_e {e : ast_Expr} (h : szE e ≤ 400000000000) : ast_sameExpr e e = some true := Sn.unf fun n => same_E e h n
theorem same_c {c : ast_Cond} (h : szC c ≤ 400000000000) : ast_sameCond c c = some true := by
  unfold szC at h
  unfold ast_sameCond
  rw [same_e (e := c.L) (by omega), same_e (e := c.R) (by omega)]
  simp
/-! ### Statements -/
theorem szL_lenA : ∀ l : List ast_Stmt, l.length ≤ szL l := len_szL
theorem szL_memA : ∀ {l : List ast_Stmt} {x : ast_Stmt}, x ∈ l → szS x + 1 ≤ szL l
  | y :: r, x, h => by
    have := szL_pos r
    rcases List.mem_cons.1 h with rfl | h
    · simp only [szL]; omega
    · have := szL_memA h; simp only [szL]; omega
theorem szA_memA : ∀ {l : List ast_Arm} {x : ast_Arm}, x ∈ l → szL x.Body + 3 ≤ szA l
  | .mk t v b :: r, x, h => by
    have := szA_pos r
    rcases List.mem_cons.1 h with rfl | h
    · simp only [szA]; show szL b + 3 ≤ _; omega
    · have := szA_memA h; simp only [szA]; omega
theorem stmts_of {l : List ast_Stmt} (hz : szL l ≤ 400000000000) (h : ∀ x ∈ l, ∀ n, Sn n (2 * szS x) (ast_sameStmtN n x x) true) (n : Nat) : Sn n (2 * szL l) (ast_Stmt__ast_sameStmtN n l l) true := by
  have hl := szL_lenA l
  have hp := szL_pos l
  cases n with
  | zero => exact .inr ⟨rfl, by omega⟩
  | succ n =>
    simp only [ast_Stmt__ast_sameStmtN, bne_self, Bool.false_eq_true, if_false]
    refine (Sn.bind (f := Sum.elim (fun r => some r) (fun j1 => some true)) (eqloop (O := Bool) (body := ast_Stmt__ast_sameStmt_l1 (ast_Stmt__ast_sameStmtN n) (ast_sameStmtN n) (ast_Arm__ast_sameArmN n) (ast_sameArmN n) l l) (n := n) (H := 2 * szL l - 1) l false (by omega) (fun i x hx hxm hlt hw => by
      unfold ast_Stmt__ast_sameStmt_l1
      rw [if_pos (by simpa using hlt), hx]
      simp only [Option.bind_eq_bind, Option.bind_some, hw]
      have := szL_memA hxm
      exact Sn.bind (f := _) ((h x hxm n).mono (by omega)) (.inl rfl)) (by unfold ast_Stmt__ast_sameStmt_l1; rw [if_neg (by simp)])) (.inl rfl)).up.mono (by omega)
theorem arms_of {l : List ast_Arm} (hz : szA l ≤ 400000000000) (h : ∀ x ∈ l, ∀ n, Sn n (2 * szL x.Body + 1) (ast_sameArmN n x x) true) (n : Nat) : Sn n (2 * szA l) (ast_Arm__ast_sameArmN n l l) true := by
  have hl := len_szA l
  have hp := szA_pos l
  cases n with
  | zero => exact .inr ⟨rfl, by omega⟩
  | succ n =>
    simp only [ast_Arm__ast_sameArmN, bne_self, Bool.false_eq_true, if_false]
    refine (Sn.bind (f := Sum.elim (fun r => some r) (fun j1 => some true)) (eqloop (O := Bool) (body := ast_Arm__ast_sameArm_l1 (ast_Stmt__ast_sameStmtN n) (ast_sameStmtN n) (ast_Arm__ast_sameArmN n) (ast_sameArmN n) l l) (n := n) (H := 2 * szA l - 1) l false (by omega) (fun i x hx hxm hlt hw => by
      unfold ast_Arm__ast_sameArm_l1
      rw [if_pos (by simpa using hlt), hx]
      simp only [Option.bind_eq_bind, Option.bind_some, hw]
      have := szA_memA hxm
      exact Sn.bind (f := _) ((h x hxm n).mono (by omega)) (.inl rfl)) (by unfold ast_Arm__ast_sameArm_l1; rw [if_neg (by simp)])) (.inl rfl)).up.mono (by omega)
mutual
theorem same_S : ∀ (s : ast_Stmt), szS s ≤ 400000000000 → ∀ n, Sn n (2 * szS s) (ast_sameStmtN n s s) true
  | .mk k nm tg e c bo el ar, hz, n => by
    simp only [szS] at hz ⊢
    have p1 := szL_pos bo
    have hb := stmts_of (l := bo) (by omega) (same_L bo (by omega)) 
    have he := stmts_of (l := el) (by omega) (same_L el (by omega))
    have ha := arms_of (l := ar) (by omega) (same_A ar (by omega))
    cases n with
    | zero => exact .inr ⟨rfl, by omega⟩
    | succ n =>
      simp only [ast_sameStmtN]
      dsimp only [ast_Stmt.Kind, ast_Stmt.Name, ast_Stmt.Tag, ast_Stmt.E, ast_Stmt.C, ast_Stmt.Body, ast_Stmt.Else, ast_Stmt.Arms]
      simp only [bne_self, Bool.false_eq_true, if_false, beq_self_eq_true, if_true, same_e (e := e) (by omega), same_c (c := c) (by omega), Option.bind_eq_bind, Option.bind_some, some_bind_id]
      refine Sn.mono (h := 2 * (4 + szE e + szC c + szL bo + szL el + szA ar) - 1 + 1) (Sn.up ?_) (by omega)
      cases (k == 1) with
      | true => exact .inl rfl
      | false =>
        simp only [Bool.false_eq_true, if_false]
        cases (k == 2) with
        | true =>
          simp only [if_true]
          exact Sn.bind (f := _) ((hb n).mono (by omega)) (by simp only [if_true]; exact (he n).mono (by omega))
        | false =>
          simp only [Bool.false_eq_true, if_false]
          cases (k == 3) with
          | true => simp only [if_true]; exact (hb n).mono (by omega)
          | false =>
            simp only [Bool.false_eq_true, if_false]
            cases (k == 4) with
            | true => exact .inl rfl
            | false =>
              simp only [Bool.false_eq_true, if_false]
              cases (k == 5) with
              | true => simp only [if_true]; exact (ha n).mono (by omega)
              | false =>
                simp only [Bool.false_eq_true, if_false]
                cases (k == 6) <;> cases (k == 7) <;> exact .inl rfl
theorem same_L : ∀ (l : List ast_Stmt), szL l ≤ 400000000000 → ∀ x ∈ l, ∀ n, Sn n (2 * szS x) (ast_sameStmtN n x x) true
  | [], hz, x, h, n => by cases h
  | e :: r, hz, x, h, n => by
    simp only [szL] at hz
    rcases List.mem_cons.1 h with h | h
    · rw [h]; exact same_S e (by omega) n
    · exact same_L r (by omega) x h n
theorem same_A : ∀ (l : List ast_Arm), szA l ≤ 400000000000 → ∀ x ∈ l, ∀ n, Sn n (2 * szL x.Body + 1) (ast_sameArmN n x x) true
  | [], hz, x, h, n => by cases h
  | .mk t v b :: r, hz, x, h, n => by
    simp only [szA] at hz
    rcases List.mem_cons.1 h with h | h
    · rw [h]
      show Sn n (2 * szL b + 1) _ true
      have hb := stmts_of (l := b) (by omega) (same_L b (by omega))
      cases n with
      | zero => exact .inr ⟨rfl, by omega⟩
      | succ n =>
        simp only [ast_sameArmN]
        dsimp only [ast_Arm.Tag, ast_Arm.Var, ast_Arm.Body]
        simp only [beq_self_eq_true, if_true, Option.bind_eq_bind, some_bind_id]
        exact (hb n).up
    · exact same_A r (by omega) x h n
end
theorem same_l {l : List ast_Stmt} (h : szL l ≤ 400000000000) : ast_Stmt__ast_sameStmt l l = some true := Sn.unf fun n => stmts_of h (same_L l h) n
theorem same_strs {l : List ByteArray} (h : l.length ≤ 400000000000) : slices_Equal_string_string_ l l = some true := by
  unfold slices_Equal_string_string_
  rw [eqloop_f (body := slices_Equal_string_string__l1 l l) l false (by omega) (fun i x hx hm hlt hw => by
    unfold slices_Equal_string_string__l1
    rw [if_pos (by simpa using hlt), hx]
    simp [hw]) (by unfold slices_Equal_string_string__l1; rw [if_neg (by simp)])]
  simp
theorem same_moves {l : List ast_Move} (h : l.length ≤ 400000000000) : ast_Move_ l l = some true := by
  unfold ast_Move_
  rw [eqloop_f (body := ast_Move__l1 l l) l false (by omega) (fun i x hx hm hlt hw => by
    unfold ast_Move__l1
    rw [if_pos (by simpa using hlt), hx]
    simp [hw]) (by unfold ast_Move__l1; rw [if_neg (by simp)])]
  simp
theorem same_sys {s : ast_System} (h : szSys s ≤ 400000000000) : ast_Same s s = some true := by
  have n1 := sumN_len (c := szCh) (fun x => by unfold szCh; omega) s.Chans
  have n2 := sumN_len (c := szR) (fun x => by unfold szR; omega) s.Rules
  have n3 := sumN_len (c := szP) (fun x => by unfold szP; omega) s.Procs
  unfold szSys at h
  have e1 : ast_Rule__ast_Same_1 s.Rules s.Rules = some true := by
    unfold ast_Rule__ast_Same_1
    rw [eqloop_f (body := ast_Rule__ast_Same_1_l1 s.Rules s.Rules) s.Rules false (by omega) (fun i x hx hm hlt hw => by
      have hz := sumN_mem (c := szR) hm
      unfold szR at hz
      unfold ast_Rule__ast_Same_1_l1 ast_Same_1
      rw [if_pos (by simpa using hlt), hx]
      simp only [Option.bind_eq_bind, Option.bind_some]
      rw [same_moves (by unfold szR at h; omega)]
      simp [hw]) (by unfold ast_Rule__ast_Same_1_l1; rw [if_neg (by simp)])]
    simp
  have e2 : ast_Proc__ast_Same_2 s.Procs s.Procs = some true := by
    unfold ast_Proc__ast_Same_2
    rw [eqloop_f (body := ast_Proc__ast_Same_2_l1 s.Procs s.Procs) s.Procs false (by omega) (fun i x hx hm hlt hw => by
      have hz := sumN_mem (c := szP) hm
      unfold szP at hz
      unfold ast_Proc__ast_Same_2_l1 ast_Same_2
      rw [if_pos (by simpa using hlt), hx]
      simp only [Option.bind_eq_bind, Option.bind_some]
      rw [same_strs (by unfold szP at h; omega), same_l (by unfold szP at h; omega)]
      simp [hw]) (by unfold ast_Proc__ast_Same_2_l1; rw [if_neg (by simp)])]
    simp
  have e3 : ast_Chan__ast_sameChan s.Chans s.Chans = some true := by
    unfold ast_Chan__ast_sameChan
    rw [eqloop_f (body := ast_Chan__ast_sameChan_l1 s.Chans s.Chans) s.Chans false (by omega) (fun i x hx hm hlt hw => by
      have hz := sumN_mem (c := szCh) hm
      unfold szCh at hz
      unfold ast_Chan__ast_sameChan_l1 ast_sameChan
      rw [if_pos (by simpa using hlt), hx]
      simp only [Option.bind_eq_bind, Option.bind_some]
      rw [same_strs (by unfold szCh at h; omega)]
      simp [hw]) (by unfold ast_Chan__ast_sameChan_l1; rw [if_neg (by simp)])]
    simp
  unfold ast_Same
  rw [e1, e2, e3]
  simp
end Go.Proofs.YtokjbpmjdcbogaaGreatDoor.Abs.Wri
