/- The reference's Lex, as it is printed, comes to what lexing is, of all texts of at most 1,000,000 bytes. -/
import Derived.Test.YtjcbedgpmjgcdaaDoorPLexx5
import Derived.Test.YtjcbedgpmjgcdaaDoorLexC
import Derived.Test.YtjcbedgpmjgcdaaDoorPureBase
namespace Go.Proofs.YtjcbedgpmjgcdaaDoor.LexR
open Go.RowKit Go.Proofs.YtjcbedgpmjgcdaaDoor.Hand Go.Proofs.YtjcbedgpmjgcdaaDoorW.PrintWords Go.Proofs.YtjcbedgpmjgcdaaDoorW.PrintLast Go.Proofs.YtjcbedgpmjgcdaaDoorW.PrintMore
open LexA LexB LexC PLex PureReserved
set_option linter.unusedSectionVars false

theorem letter_r (b : UInt8) : jetsamref01_letter.f (b.toNat : Int) = some (isL b) := by
  unfold jetsamref01_letter.f isL
  by_cases h : 97 ≤ b.toNat
  · rw [if_pos (by omega)]; simp only [h, decide_true, Bool.true_and]; exact congrArg some (decide_eq_decide.mpr (by omega))
  · rw [if_neg (by omega)]; simp only [h, decide_false, Bool.false_and]
theorem digit_r (b : UInt8) : jetsamref01_digit.f (b.toNat : Int) = some (isD b) := by
  unfold jetsamref01_digit.f isD
  by_cases h : 48 ≤ b.toNat
  · rw [if_pos (by omega)]; simp only [h, decide_true, Bool.true_and]; exact congrArg some (decide_eq_decide.mpr (by omega))
  · rw [if_neg (by omega)]; simp only [h, decide_false, Bool.false_and]

/-! ### sign -/
section
variable (s : ByteArray) (hs : s.size ≤ 1000000) (p : Nat) (hp : p < s.size)
include hs hp
theorem sgn_l1 (a : UInt8) (ha : Hid (bt s (p : Int) = (a.toNat : Int))) (O : ByteArray) (hO : O.size ≤ 1000) : ∀ (d i : Nat), O.size - i = d → i ≤ O.size →
    Ev (fun k => jetsamref01_sign.l1 k s (p : Int) O (i : Int)) (if a ∈ O.data.toList.drop i then 1 else 0) := by
  intro d
  induction d with
  | zero =>
    intro i hd hi
    refine ev_one (fun k => ?_)
    simp only [jetsamref01_sign.l1]
    rw [if_neg (by omega), List.drop_of_length_le (by rw [size_list]; omega)]; simp
  | succ d ih =>
    intro i hd hi
    have hl : i < O.data.toList.length := by rw [size_list]; omega
    have e := List.drop_eq_getElem_cons hl
    have hb := bt_get O i hl
    generalize O.data.toList[i] = b at e hb
    have hw : wrap64 ((i : Int) + 1) = ((i + 1 : Nat) : Int) := by rw [wrap_id (by omega) (by omega)]; omega
    have IH := ih (i + 1) (by omega) (by omega)
    rw [e]
    by_cases hab : b = a
    · refine ev_one (fun k => ?_)
      simp only [jetsamref01_sign.l1]
      rw [if_pos (by omega), if_pos (by omega), if_pos (by omega), if_pos (by omega), hb, ha.out, hab, if_pos rfl, if_pos List.mem_cons_self]
    · have hne : ¬ ((b.toNat : Int) = (a.toNat : Int)) := fun h => hab (UInt8.toNat_inj.mp (by omega))
      refine Ev.step (f := fun k => jetsamref01_sign.l1 k s (p : Int) O ((i + 1 : Nat) : Int)) (fun k => ?_) (ev_eq IH ?_)
      · simp only [jetsamref01_sign.l1]
        rw [if_pos (by omega), if_pos (by omega), if_pos (by omega), if_pos (by omega), hb, ha.out, if_neg hne, hw]
      · by_cases hm : a ∈ List.drop (i + 1) O.data.toList
        · rw [if_pos hm, if_pos (List.mem_cons_of_mem _ hm)]
        · rw [if_neg hm, if_neg]
          intro h; rcases List.mem_cons.mp h with h | h
          · exact hab h.symm
          · exact hm h
theorem sgn_l0 (l : List ByteArray) (hl : l.length = 4) (r : Int) (H : Ev (fun k => jetsamref01_sign.l1 k s (p : Int) (⟨#[123, 125, 40, 41, 59, 44, 46, 61, 60, 62, 43, 45, 42, 47, 37]⟩ : ByteArray) 0) r) : ∀ (d i : Nat), 4 - i = d → i ≤ 4 →
    Ev (fun k => jetsamref01_sign.l0 k s (p : Int) l (i : Int)) (if p + 2 ≤ s.size ∧ (s.data.toList.take (p + 2)).drop p ∈ (l.drop i).map (·.data.toList) then 2 else r) := by
  have hw2 : wrap64 ((p : Int) + 2) = ((p + 2 : Nat) : Int) := by rw [wrap_id (by omega) (by omega)]; omega
  intro d
  induction d with
  | zero =>
    intro i hd hi
    have : i = 4 := by omega
    subst this
    refine Ev.step (fun k => ?_) (ev_eq H ?_)
    · simp only [jetsamref01_sign.l0]
      rw [if_neg (by omega)]
    · rw [if_neg]
      rw [List.drop_of_length_le (by omega)]; simp
  | succ d ih =>
    intro i hd hi
    have hlt : i < l.length := by omega
    have hw : wrap64 ((i : Int) + 1) = ((i + 1 : Nat) : Int) := by rw [wrap_id (by omega) (by omega)]; omega
    have IH := ih (i + 1) (by omega) (by omega)
    have e := List.drop_eq_getElem_cons hlt
    by_cases h2 : p + 2 ≤ s.size
    · by_cases hm : (s.data.toList.take (p + 2)).drop p = l[i].data.toList
      · refine ev_one (fun k => ?_)
        simp only [jetsamref01_sign.l0]
        rw [hw2, if_pos (by omega), if_pos (by omega), if_pos (by omega), if_pos (by omega), if_pos (by omega), if_pos (by omega), rdOf_get l i hlt, Go.ByteArray.toList_eq, Go.ByteArray.toList_eq, Int.toNat_natCast, Int.toNat_natCast, ext_list, if_pos hm]
        rw [if_pos ⟨h2, by rw [e, List.map_cons, hm]; exact List.mem_cons_self⟩]
      · refine Ev.step (f := fun k => jetsamref01_sign.l0 k s (p : Int) l ((i + 1 : Nat) : Int)) (fun k => ?_) (ev_eq IH ?_)
        · simp only [jetsamref01_sign.l0]
          rw [hw2, if_pos (by omega), if_pos (by omega), if_pos (by omega), if_pos (by omega), if_pos (by omega), if_pos (by omega), rdOf_get l i hlt, Go.ByteArray.toList_eq, Go.ByteArray.toList_eq, Int.toNat_natCast, Int.toNat_natCast, ext_list, if_neg hm, hw]
        · rw [e, List.map_cons]
          by_cases hq : (s.data.toList.take (p + 2)).drop p ∈ (l.drop (i + 1)).map (·.data.toList)
          · rw [if_pos ⟨h2, hq⟩, if_pos ⟨h2, List.mem_cons_of_mem _ hq⟩]
          · have h1 : ¬ (p + 2 ≤ s.size ∧ (s.data.toList.take (p + 2)).drop p ∈ (l.drop (i + 1)).map (·.data.toList)) := fun h => hq h.2
            have h3 : ¬ (p + 2 ≤ s.size ∧ (s.data.toList.take (p + 2)).drop p ∈ l[i].data.toList :: (l.drop (i + 1)).map (·.data.toList)) := fun h => (List.mem_cons.mp h.2).elim hm hq
            rw [if_neg h1, if_neg h3]
    · refine Ev.step (f := fun k => jetsamref01_sign.l0 k s (p : Int) l ((i + 1 : Nat) : Int)) (fun k => ?_) (ev_eq IH ?_)
      · simp only [jetsamref01_sign.l0]
        rw [hw2, if_pos (by omega), if_neg (by omega), hw]
      · have h1 : ∀ Q : Prop, ¬ (p + 2 ≤ s.size ∧ Q) := fun Q h => h2 h.1
        rw [if_neg (h1 _), if_neg (h1 _)]
theorem sgn_ev : Ev (fun k => jetsamref01_sign.f k s (p : Int)) ((signL (s.data.toList.drop p) : Nat) : Int) := by
  have hl : p < s.data.toList.length := by rw [size_list]; omega
  have e := List.drop_eq_getElem_cons hl
  have hb := bt_get s p hl
  generalize s.data.toList[p] = a at e hb
  have h1 := sgn_l1 s hs p hp a (Lib.hid hb) (⟨#[123, 125, 40, 41, 59, 44, 46, 61, 60, 62, 43, 45, 42, 47, 37]⟩ : ByteArray) (by decide) 15 0 rfl (by decide)
  rw [show ((0 : Nat) : Int) = 0 from rfl] at h1
  have h0 := sgn_l0 s hs p hp [(⟨#[61, 61]⟩ : ByteArray), (⟨#[33, 61]⟩ : ByteArray), (⟨#[60, 61]⟩ : ByteArray), (⟨#[62, 61]⟩ : ByteArray)] rfl _ h1 4 0 rfl (by decide)
  rw [show ((0 : Nat) : Int) = 0 from rfl] at h0
  unfold jetsamref01_sign.f
  refine ev_eq h0 ?_
  have ho : (a ∈ List.drop 0 (⟨#[123, 125, 40, 41, 59, 44, 46, 61, 60, 62, 43, 45, 42, 47, 37]⟩ : ByteArray).data.toList) ↔ ((a :: List.drop (p + 1) s.data.toList).head? ∈ ones.map some) := by
    rw [List.head?_cons]; simp [ones]
  have ht : (p + 2 ≤ s.size ∧ (s.data.toList.take (p + 2)).drop p ∈ ([(⟨#[61, 61]⟩ : ByteArray), (⟨#[33, 61]⟩ : ByteArray), (⟨#[60, 61]⟩ : ByteArray), (⟨#[62, 61]⟩ : ByteArray)].drop 0).map (·.data.toList)) ↔ ((a :: List.drop (p + 1) s.data.toList)[1]? = some 61 ∧ (a :: List.drop (p + 1) s.data.toList).head? ∈ twos.map some) := by
    have hlen : (s.data.toList.drop p).length = s.size - p := by rw [List.length_drop, size_list]
    have htd : (s.data.toList.take (p + 2)).drop p = (s.data.toList.drop p).take 2 := by rw [List.drop_take]; congr 1; omega
    rw [htd, e]
    rw [e] at hlen
    cases hr : List.drop (p + 1) s.data.toList with
    | nil =>
      rw [hr] at hlen
      constructor
      · intro h; simp at hlen; omega
      · intro h; simp at h
    | cons c r =>
      rw [hr] at hlen
      have : p + 2 ≤ s.size := by simp at hlen; omega
      simp only [this, true_and, List.drop_zero, List.map_cons, List.map_nil, List.take_succ_cons, List.take_zero, List.mem_cons, List.not_mem_nil, or_false, List.getElem?_cons_succ, List.getElem?_cons_zero, Option.some.injEq, List.head?_cons, twos, List.cons.injEq, and_true]
      constructor
      · rintro (⟨h, h'⟩ | ⟨h, h'⟩ | ⟨h, h'⟩ | ⟨h, h'⟩) <;> simp [h, h']
      · rintro ⟨h, h' | h' | h' | h'⟩ <;> simp [h, h']
  rw [e]
  unfold signL
  by_cases h2 : (a :: List.drop (p + 1) s.data.toList)[1]? = some 61 ∧ (a :: List.drop (p + 1) s.data.toList).head? ∈ twos.map some
  · rw [if_pos h2, if_pos (ht.mpr h2)]; rfl
  · rw [if_neg h2, if_neg (fun h => h2 (ht.mp h))]
    by_cases h3 : (a :: List.drop (p + 1) s.data.toList).head? ∈ ones.map some
    · rw [if_pos h3, if_pos (ho.mpr h3)]; rfl
    · rw [if_neg h3, if_neg (fun h => h3 (ho.mp h))]; rfl
end

/-! ### Lex -/
def t68 (t : Tok) : S68 := ⟨t.kind, ⟨t.text.toArray⟩, (t.num : Int), (t.at_ : Int)⟩
def fin68 (size : Nat) (z : List Tok × Option (Nat × Int)) : List S68 × Int × Int :=
  ((told size z).1.map t68, (told size z).2.1, (told size z).2.2)
theorem fin68_app (size : Nat) (acc : List Tok) (p : Nat) (e : Int) : fin68 size (acc, some (p, e)) = ([], (p : Int), e) := rfl
section
variable (s : ByteArray) (hs : s.size ≤ 1000000)
include hs
theorem r_l1 (acc : List S68) (p : Nat) (b : UInt8) (r : List S68 × Int × Int) (hA : isA b = true) : ∀ (d i : Nat), s.size - i = d → i ≤ s.size →
    Ev (fun k => jetsamref01_Lex.j3 k s acc (p : Int) (b.toNat : Int) ((i + runL (s.data.toList.drop i) : Nat) : Int)) r →
    Ev (fun k => jetsamref01_Lex.l1 k s acc (p : Int) (b.toNat : Int) (i : Int)) r := by
  intro d
  induction d with
  | zero =>
    intro i hd hi H
    have hnil : s.data.toList.drop i = [] := List.drop_of_length_le (by rw [size_list]; omega)
    rw [hnil, show runL [] = 0 from rfl, Nat.add_zero] at H
    refine Ev.step (fun k => ?_) H
    simp only [jetsamref01_Lex.l1]
    rw [if_neg (by omega)]
  | succ d ih =>
    intro i hd hi H
    have hl : i < s.data.toList.length := by rw [size_list]; omega
    have e := List.drop_eq_getElem_cons hl
    have hb := bt_get s i hl
    generalize s.data.toList[i] = c at e hb
    have hw : wrap64 ((i : Int) + 1) = ((i + 1 : Nat) : Int) := by rw [wrap_id (by omega) (by omega)]; omega
    rw [e, runL_cons] at H
    by_cases hc : isA c = true
    · rw [if_pos hc, show i + (runL (s.data.toList.drop (i + 1)) + 1) = (i + 1) + runL (s.data.toList.drop (i + 1)) by omega] at H
      refine Ev.step (f := fun k => jetsamref01_Lex.l1 k s acc (p : Int) (b.toNat : Int) ((i + 1 : Nat) : Int)) (fun k => ?_) (ih (i + 1) (by omega) (by omega) H)
      simp only [jetsamref01_Lex.l1]
      rw [if_pos (by omega), letter_r, digit_r, hb, letter_r, digit_r, hw, if_pos (by omega)]
      simp only [Option.bind_some]
      cases h1 : isL b <;> cases h2 : isL c <;> cases h3 : isD b <;> cases h4 : isD c <;> simp_all [isA]
    · rw [if_neg hc, Nat.add_zero] at H
      refine Ev.step (fun k => ?_) H
      simp only [jetsamref01_Lex.l1]
      rw [if_pos (by omega), letter_r, digit_r, hb, letter_r, digit_r, if_pos (by omega)]
      simp only [Option.bind_some]
      cases h1 : isL b <;> cases h2 : isL c <;> cases h3 : isD b <;> cases h4 : isD c <;> simp_all [isA]
theorem r_l1n (acc : List S68) (p : Nat) (b : UInt8) (r : List S68 × Int × Int) (hA : isA b = false) (i : Nat)
    (H : Ev (fun k => jetsamref01_Lex.j3 k s acc (p : Int) (b.toNat : Int) (i : Int)) r) :
    Ev (fun k => jetsamref01_Lex.l1 k s acc (p : Int) (b.toNat : Int) (i : Int)) r := by
  have h1 : isL b = false := by simp only [isA, Bool.or_eq_false_iff] at hA; exact hA.1
  have h2 : isD b = false := by simp only [isA, Bool.or_eq_false_iff] at hA; exact hA.2
  refine Ev.step (fun k => ?_) H
  simp only [jetsamref01_Lex.l1]
  by_cases hlt : (i : Int) < (s.size : Int)
  · rw [if_pos hlt, letter_r, digit_r, h1, h2]; rfl
  · rw [if_neg hlt]
theorem r_l2 (acc : List Tok) (ha : acc.length ≤ 1000000) (p e : Nat) (x : ByteArray) (hx : x.size ≤ 10) (r : List S68 × Int × Int)
    (H : x.data.toList.all isD = true → val x.data.toList ≤ 2147483647 → Ev (fun k => jetsamref01_Lex.l0 k s (acc.map t68 ++ [(⟨2, x, (val x.data.toList : Int), (p : Int)⟩ : S68)]) (e : Int)) r)
    (H2 : ¬ (x.data.toList.all isD = true ∧ val x.data.toList ≤ 2147483647) → r = ([], (p : Int), 3)) :
    ∀ (d i : Nat), x.size - i = d → i ≤ x.size → (x.data.toList.take i).all isD = true →
    Ev (fun k => jetsamref01_Lex.l2 k s (acc.map t68) (p : Int) (e : Int) (i : Int) 2 x (val (x.data.toList.take i) : Int) (p : Int)) r := by
  intro d
  induction d with
  | zero =>
    intro i hd hi hD
    have hie : i = x.size := by omega
    have ht : x.data.toList.take i = x.data.toList := List.take_of_length_le (by rw [size_list]; omega)
    rw [ht] at hD ⊢
    by_cases hv : val x.data.toList ≤ 2147483647
    · refine Ev.step (fun k => ?_) (H hD hv)
      simp only [jetsamref01_Lex.l2]
      rw [if_neg (by omega), if_neg (by omega), if_pos (by simp; omega)]
    · rw [H2 (fun h => hv h.2)]
      refine ev_one (fun k => ?_)
      simp only [jetsamref01_Lex.l2]
      rw [if_neg (by omega), if_pos (by omega)]
  | succ d ih =>
    intro i hd hi hD
    have hl : i < x.data.toList.length := by rw [size_list]; omega
    have hb := bt_get x i hl
    have htk : x.data.toList.take (i + 1) = x.data.toList.take i ++ [x.data.toList[i]] := by rw [List.take_succ_eq_append_getElem hl]
    have hmem : x.data.toList[i] ∈ x.data.toList := List.getElem_mem hl
    generalize x.data.toList[i] = c at hb htk hmem
    replace hb := Lib.hid hb
    have hw : wrap64 ((i : Int) + 1) = ((i + 1 : Nat) : Int) := by rw [wrap_id (by omega) (by omega)]; omega
    by_cases hc : isD c = true
    · have hval : val (x.data.toList.take (i + 1)) = 10 * val (x.data.toList.take i) + (c.toNat - 48) := by
        rw [htk]; unfold val; rw [List.foldl_append]; rfl
      have hlt := foldl_lt (x.data.toList.take i) (fun b hb => List.all_eq_true.mp hD b hb) 0
      rw [← val_eq, List.length_take] at hlt
      have h10 : 10 ^ (min i x.data.toList.length) ≤ 10 ^ 10 := Nat.pow_le_pow_right (by omega) (by rw [size_list]; omega)
      have h1010 : (10 : Nat) ^ 10 = 10000000000 := by decide
      have hcr := hc
      simp only [isD, Bool.and_eq_true, decide_eq_true_eq] at hcr
      have hm1 : ((c.toNat : Int) - 48) % 256 = ((c.toNat - 48 : Nat) : Int) := by omega
      have hw1 : Hid (wrap64 (10 * (val (x.data.toList.take i) : Int)) = 10 * (val (x.data.toList.take i) : Int)) := Lib.hid (wrap_id (by omega) (by omega))
      have hw2 : Hid (wrap64 (10 * (val (x.data.toList.take i) : Int) + ((c.toNat - 48 : Nat) : Int)) = ((val (x.data.toList.take (i + 1)) : Nat) : Int)) := Lib.hid (by
        rw [wrap_id (by omega) (by omega), hval]; omega)
      refine Ev.step (fun k => ?_) (ih (i + 1) (by omega) (by omega) (by rw [htk, List.all_append, hD]; simp [hc]))
      simp only [jetsamref01_Lex.l2]
      rw [if_pos (by omega), if_pos (by omega), hb.out, digit_r, hc, hm1, hw1.out, hw2.out, hw]; rfl
    · have hc' : isD c = false := by simpa using hc
      rw [H2 (fun h => hc (List.all_eq_true.mp h.1 c hmem))]
      refine ev_one (fun k => ?_)
      simp only [jetsamref01_Lex.l2]
      rw [if_pos (by omega), if_pos (by omega), hb.out, digit_r, hc']; rfl
theorem r_l0 : ∀ (d i : Nat) (acc : List Tok), s.size - i = d → i ≤ s.size → acc.length ≤ i →
    Ev (fun k => jetsamref01_Lex.l0 k s (acc.map t68) (i : Int)) (fin68 s.size (acc ++ (lexS (s.data.toList.drop i) i).1, (lexS (s.data.toList.drop i) i).2)) := by
  intro d
  induction d using Nat.strongRecOn with
  | _ d ih =>
  intro i acc hd hi ha
  by_cases hlt : i < s.size
  · have hl : i < s.data.toList.length := by rw [size_list]; omega
    have e := List.drop_eq_getElem_cons hl
    have hb := bt_get s i hl
    generalize s.data.toList[i] = b at e hb
    have hw : wrap64 ((i : Int) + 1) = ((i + 1 : Nat) : Int) := by rw [wrap_id (by omega) (by omega)]; omega
    have hs1 : (i : Int) < (s.size : Int) := by omega
    have h0 : (0 : Int) ≤ (i : Int) := by omega
    have J : ∀ k, jetsamref01_Lex.l0 (k + 1) s (acc.map t68) (i : Int) = jetsamref01_Lex.j1 k s (acc.map t68) (i : Int) (b.toNat : Int) (isB b) := by
      intro k
      simp only [jetsamref01_Lex.l0]
      rw [if_pos hs1, if_pos h0, hb]
      have h32 : ((b.toNat : Int) = 32) ↔ b = 32 := by
        constructor
        · intro h; exact UInt8.toNat_inj.mp (by have : (32 : UInt8).toNat = 32 := rfl; omega)
        · rintro rfl; rfl
      have h10 : ((b.toNat : Int) == 10) = (b == 10) := by
        rw [Bool.eq_iff_iff, beq_iff_eq, beq_iff_eq]
        constructor
        · intro h; exact UInt8.toNat_inj.mp (by have : (10 : UInt8).toNat = 10 := rfl; omega)
        · rintro rfl; rfl
      by_cases hc : b = 32
      · rw [if_pos (h32.mpr hc), hc]; rfl
      · rw [if_neg (fun h => hc (h32.mp h)), h10]
        have : (b == 32) = false := by simpa using hc
        simp [isB, this]
    refine Ev.step J ?_
    clear J hb
    rw [e]
    by_cases hB : isB b = true
    · rw [lexS_blank _ _ hB, hB]
      refine Ev.step (f := fun k => jetsamref01_Lex.l0 k s (acc.map t68) ((i + 1 : Nat) : Int)) (fun k => ?_) (ih (s.size - (i + 1)) (by omega) (i + 1) acc rfl (by omega) (by omega))
      simp only [jetsamref01_Lex.j1, if_true]; rw [hw]
    · have hB' : isB b = false := by simpa using hB
      rw [hB']
      clear hw
      have J1 : ∀ k, jetsamref01_Lex.j1 (k + 1) s (acc.map t68) (i : Int) (b.toNat : Int) false = jetsamref01_Lex.l1 k s (acc.map t68) (i : Int) (b.toNat : Int) (i : Int) := by
        intro k; simp only [jetsamref01_Lex.j1, Bool.false_eq_true, if_false]
      refine Ev.step J1 ?_
      -- behind a word
      have next : ∀ w : W, word1 (b :: s.data.toList.drop (i + 1)) = .ok w →
          Ev (fun k => jetsamref01_Lex.l0 k s (acc.map t68 ++ [(⟨w.kind, s.extract i (i + w.len), (w.num : Int), (i : Int)⟩ : S68)]) ((i + w.len : Nat) : Int))
            (fin68 s.size (acc ++ (lexS (b :: s.data.toList.drop (i + 1)) i).1, (lexS (b :: s.data.toList.drop (i + 1)) i).2)) := by
        intro w hw1
        have hlen := word1_len hw1
        have hlen2 : w.len ≤ s.size - i := by
          have := hlen.2
          rw [← e, List.length_drop, size_list] at this
          exact this
        have hd2 : (b :: s.data.toList.drop (i + 1)).drop w.len = s.data.toList.drop (i + w.len) := by
          rw [← e, List.drop_drop]
        have IH := ih (s.size - (i + w.len)) (by omega) (i + w.len) (acc ++ [(⟨w.kind, (b :: s.data.toList.drop (i + 1)).take w.len, w.num, i⟩ : Tok)]) rfl (by omega) (by simp; omega)
        have hx : s.extract i (i + w.len) = (⟨((b :: s.data.toList.drop (i + 1)).take w.len).toArray⟩ : ByteArray) := by
          refine list_ext ?_
          rw [ext_list, ← e]; simp [List.drop_take]
        rw [lexS_ok hB' hw1, hd2, hx]
        refine Ev.congr (fun k => ?_) (ev_eq IH (by simp))
        simp [t68]
      have hrl : i + runL (b :: s.data.toList.drop (i + 1)) ≤ s.size := by
        have := runL_le (b :: s.data.toList.drop (i + 1))
        rw [← e, List.length_drop, size_list] at this
        rw [← e]; omega
      have hpx : (s.extract i (i + runL (b :: s.data.toList.drop (i + 1)))).data.toList = (b :: s.data.toList.drop (i + 1)).take (runL (b :: s.data.toList.drop (i + 1))) := by
        rw [ext_list, ← e, List.drop_take]; congr 1; omega
      have hpz : (s.extract i (i + runL (b :: s.data.toList.drop (i + 1)))).size = runL (b :: s.data.toList.drop (i + 1)) := by
        rw [ByteArray.size_extract]; omega
      by_cases hL : isL b = true
      · have hA : isA b = true := by simp [isA, hL]
        refine r_l1 s hs (acc.map t68) i b _ hA (s.size - i) i rfl hi ?_
        rw [e]
        generalize hn : runL (b :: s.data.toList.drop (i + 1)) = n at hrl hpx hpz
        have hres := ref_reserved_ev (s.extract i (i + n))
        rw [hpx] at hres
        have E : ∀ k, jetsamref01_Lex.j3 (k + 1) s (acc.map t68) (i : Int) (b.toNat : Int) ((i + n : Nat) : Int) = (jetsamref01_Reserved.f k (s.extract i (i + n))).bind fun t148 => (if t148 = true then (if ((s.extract i (i + n)).size : Int) > 12 then (some (([] : List (S68)), (i : Int), 3)) else (if (acc.map t68).length < 3518437208883 then (jetsamref01_Lex.l0 k s (acc.map t68 ++ [(⟨4, s.extract i (i + n), 0, (i : Int)⟩ : S68)]) ((i + n : Nat) : Int)) else (none))) else (if ((s.extract i (i + n)).size : Int) > 12 then (some (([] : List (S68)), (i : Int), 3)) else (if (acc.map t68).length < 3518437208883 then (jetsamref01_Lex.l0 k s (acc.map t68 ++ [(⟨1, s.extract i (i + n), 0, (i : Int)⟩ : S68)]) ((i + n : Nat) : Int)) else (none)))) := by
          intro k
          simp only [jetsamref01_Lex.j3]
          rw [letter_r, hL, Option.bind_some, if_pos rfl, if_pos h0, if_pos (by omega), if_pos (by omega), Int.toNat_natCast, Int.toNat_natCast]
        refine Ev.step E (Ev.bind hres ?_)
        by_cases h12 : 12 < n
        · have hw1 : word1 (b :: s.data.toList.drop (i + 1)) = .error 3 := by rw [word1_cons, if_pos hL, hn, if_pos h12]
          rw [lexS_error hB' hw1, fin68_app]
          refine Ev.congr (f := fun _ => some (([] : List S68), (i : Int), 3)) (fun k => ?_) (Ev.now _)
          rw [hpz]
          have h12' : (n : Int) > 12 := by omega
          by_cases hm : (b :: s.data.toList.drop (i + 1)).take n ∈ resv
          · simp only [hm, decide_true, if_true, if_pos h12']
          · simp only [hm, decide_false, Bool.false_eq_true, if_false, if_pos h12']
        · have hw1 : word1 (b :: s.data.toList.drop (i + 1)) = .ok ⟨if (b :: s.data.toList.drop (i + 1)).take n ∈ resv then 4 else 1, n, 0⟩ := by
            rw [word1_cons, if_pos hL, hn, if_neg h12]
          have N := next _ hw1
          dsimp only at N
          refine Ev.congr (fun k => ?_) N
          rw [hpz]
          have h12' : ¬ (n : Int) > 12 := by omega
          have hal : (acc.map t68).length < 3518437208883 := by simp; omega
          by_cases hm : (b :: s.data.toList.drop (i + 1)).take n ∈ resv
          · simp only [hm, decide_true, if_true, if_neg h12', if_pos hal]; rfl
          · simp only [hm, decide_false, Bool.false_eq_true, if_false, if_neg h12', if_pos hal]; rfl
      · have hL' : isL b = false := by simpa using hL
        by_cases hD : isD b = true
        · have hA : isA b = true := by simp [isA, hD]
          refine r_l1 s hs (acc.map t68) i b _ hA (s.size - i) i rfl hi ?_
          rw [e]
          generalize hn : runL (b :: s.data.toList.drop (i + 1)) = n at hrl hpx hpz
          have hn0 : 0 < n := by rw [← hn]; exact runL_pos hA
          have hhead : ((b :: s.data.toList.drop (i + 1)).take n).head? = some b := by
            obtain ⟨m, rfl⟩ : ∃ m, n = m + 1 := ⟨n - 1, by omega⟩
            simp
          have hlen : ((b :: s.data.toList.drop (i + 1)).take n).length = n := by rw [← hpx, size_list, hpz]
          have E : ∀ k, jetsamref01_Lex.j3 (k + 1) s (acc.map t68) (i : Int) (b.toNat : Int) ((i + n : Nat) : Int) = jetsamref01_Lex.j4 k s (acc.map t68) (i : Int) ((i + n : Nat) : Int) (decide (10 < n) || (decide (1 < n) && b == 48)) 2 (s.extract i (i + n)) 0 (i : Int) := by
            intro k
            have h48 : ((b.toNat : Int) == 48) = (b == 48) := by
              rw [Bool.eq_iff_iff, beq_iff_eq, beq_iff_eq]
              constructor
              · intro h; exact UInt8.toNat_inj.mp (by have : (48 : UInt8).toNat = 48 := rfl; omega)
              · rintro rfl; rfl
            simp only [jetsamref01_Lex.j3]
            rw [letter_r, digit_r, hL', hD, Option.bind_some, if_neg (by decide), Option.bind_some, if_pos rfl, if_pos h0, if_pos (by omega), if_pos (by omega), Int.toNat_natCast, Int.toNat_natCast, hpz, h48]
            by_cases h10 : 10 < n
            · rw [if_pos (by omega)]; simp [h10]
            · rw [if_neg (by omega)]
              by_cases h1 : 1 < n
              · rw [if_pos (by omega)]; simp [h10, h1]
              · rw [if_neg (by omega)]; simp [h10, h1]
          refine Ev.step E ?_
          have herr : ∀ (h : okNum ((b :: s.data.toList.drop (i + 1)).take n) = false), fin68 s.size (acc ++ (lexS (b :: s.data.toList.drop (i + 1)) i).1, (lexS (b :: s.data.toList.drop (i + 1)) i).2) = ([], (i : Int), 3) := by
            intro h
            have hw1 : word1 (b :: s.data.toList.drop (i + 1)) = .error 3 := by rw [word1_cons, if_neg hL, if_pos hD, hn, if_neg (by simp [h])]
            rw [lexS_error hB' hw1, fin68_app]
          by_cases hbad : (decide (10 < n) || (decide (1 < n) && b == 48)) = true
          · rw [hbad, herr]
            · refine ev_one (fun k => ?_)
              simp only [jetsamref01_Lex.j4, if_true]
            · unfold okNum
              rw [hlen, hhead]
              simp only [Bool.or_eq_true, Bool.and_eq_true, decide_eq_true_eq, beq_iff_eq] at hbad
              rcases hbad with h | ⟨h, h'⟩
              · simp [show ¬ n ≤ 10 by omega]
              · simp [h, h']
          · have hbad' : (decide (10 < n) || (decide (1 < n) && b == 48)) = false := by simpa using hbad
            rw [hbad']
            have hok : okNum ((b :: s.data.toList.drop (i + 1)).take n) = (((b :: s.data.toList.drop (i + 1)).take n).all isD && decide (val ((b :: s.data.toList.drop (i + 1)).take n) ≤ 2147483647)) := by
              unfold okNum
              rw [hlen, hhead]
              simp only [Bool.or_eq_false_iff, decide_eq_false_iff_not] at hbad'
              have h1 : decide (n ≤ 10) = true := by simp; omega
              have h2 : (decide (1 < n) && some b == some 48) = false := by
                have := hbad'.2
                rw [← this]; congr 1
              rw [h1, h2]; simp
            have hn10 : n ≤ 10 := by
              simp only [Bool.or_eq_false_iff, decide_eq_false_iff_not] at hbad'
              omega
            refine Ev.step (f := fun k => jetsamref01_Lex.l2 k s (acc.map t68) (i : Int) ((i + n : Nat) : Int) ((0 : Nat) : Int) 2 (s.extract i (i + n)) (val ((s.extract i (i + n)).data.toList.take 0) : Int) (i : Int)) (fun k => ?_) ?_
            · simp only [jetsamref01_Lex.j4, Bool.false_eq_true, if_false]; rfl
            · refine r_l2 s hs acc (by omega) i (i + n) (s.extract i (i + n)) (by omega) _ ?_ ?_ n 0 (by omega) (by omega) rfl
              · intro h1 h2
                rw [hpx] at h1 h2 ⊢
                have hw1 : word1 (b :: s.data.toList.drop (i + 1)) = .ok ⟨2, n, val ((b :: s.data.toList.drop (i + 1)).take n)⟩ := by
                  rw [word1_cons, if_neg hL, if_pos hD, hn, if_pos (by rw [hok, h1]; simpa using h2)]
                exact next _ hw1
              · intro h
                refine herr ?_
                rw [hok]
                rw [hpx] at h
                simp only [Bool.and_eq_false_iff, decide_eq_false_iff_not]
                by_cases h1 : ((b :: s.data.toList.drop (i + 1)).take n).all isD = true
                · right; exact fun h2 => h ⟨h1, h2⟩
                · left; simpa using h1
        · have hD' : isD b = false := by simpa using hD
          have hA : isA b = false := by simp [isA, hL', hD']
          refine r_l1n s hs (acc.map t68) i b _ hA i ?_
          have hsg := sgn_ev s hs i hlt
          rw [e] at hsg
          have hsl := signL_le (b :: s.data.toList.drop (i + 1))
          rw [← e, List.length_drop, size_list, e] at hsl
          have E : ∀ k, jetsamref01_Lex.j3 (k + 1) s (acc.map t68) (i : Int) (b.toNat : Int) (i : Int) = (jetsamref01_sign.f k s (i : Int)).bind fun t160 => (if t160 = 0 then (some (([] : List (S68)), (i : Int), 2)) else (if 0 ≤ (i : Int) then (if (i : Int) ≤ (wrap64 ((i : Int) + t160)) then (if (wrap64 ((i : Int) + t160)) ≤ (s.size : Int) then (if (acc.map t68).length < 3518437208883 then (jetsamref01_Lex.l0 k s (acc.map t68 ++ [(⟨3, s.extract ((i : Int)).toNat ((wrap64 ((i : Int) + t160)) : Int).toNat, 0, (i : Int)⟩ : S68)]) (wrap64 ((i : Int) + t160))) else (none)) else (none)) else (none)) else (none))) := by
            intro k
            simp only [jetsamref01_Lex.j3]
            rw [letter_r, digit_r, hL', hD', Option.bind_some, if_neg (by decide), Option.bind_some, if_neg (by decide)]
          refine Ev.step E (Ev.bind hsg ?_)
          by_cases hz : signL (b :: s.data.toList.drop (i + 1)) = 0
          · have hw1 : word1 (b :: s.data.toList.drop (i + 1)) = .error 2 := by rw [word1_cons, if_neg hL, if_neg hD, if_pos hz]
            rw [lexS_error hB' hw1, fin68_app]
            refine Ev.congr (f := fun _ => some (([] : List S68), (i : Int), 2)) (fun k => ?_) (Ev.now _)
            rw [if_pos (by omega)]
          · have hw1 : word1 (b :: s.data.toList.drop (i + 1)) = .ok ⟨3, signL (b :: s.data.toList.drop (i + 1)), 0⟩ := by rw [word1_cons, if_neg hL, if_neg hD, if_neg hz]
            have N := next _ hw1
            dsimp only at N
            generalize signL (b :: s.data.toList.drop (i + 1)) = n at hz hsl N
            have hwn : wrap64 ((i : Int) + (n : Int)) = ((i + n : Nat) : Int) := by rw [wrap_id (by omega) (by omega)]; omega
            refine Ev.congr (fun k => ?_) N
            rw [hwn, if_neg (by omega), if_pos h0, if_pos (by omega), if_pos (by omega), if_pos (by simp; omega), Int.toNat_natCast, Int.toNat_natCast]
            rfl
  · have hie : i = s.size := by omega
    have hnil : s.data.toList.drop i = [] := List.drop_of_length_le (by rw [size_list]; omega)
    rw [hnil, lexS_nil]
    refine ev_one (fun k => ?_)
    simp only [jetsamref01_Lex.l0]
    rw [if_neg (by omega)]
    simp only [List.append_nil, fin68, told, List.length_map]
    by_cases h2 : 2000 < acc.length
    · rw [if_pos (by omega), if_pos h2]; rfl
    · rw [if_neg (by omega), if_neg h2]
end
theorem ref_ev (s : ByteArray) (hs : s.size ≤ 1000000) : Ev (fun k => jetsamref01_Lex.f k s) (fin68 s.size (lexS s.data.toList 0)) := by
  have := r_l0 s hs s.size 0 [] (by omega) (by omega) (by simp)
  simpa [jetsamref01_Lex.f] using this
theorem rd68 (l : List Tok) (i : Nat) (h : i < l.length) : rd_T68 (l.map t68) (i : Int) = t68 l[i] := by simp [rd_T68, h]
end Go.Proofs.YtjcbedgpmjgcdaaDoor.LexR
