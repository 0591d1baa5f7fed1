/- lex.Lex, as it is printed, comes to what lexing is, of all texts of at most 1,000,000 bytes. -/
import Derived.Test.YtjcbedgpmjgcdaaDoorPLexx3
import Derived.Test.YtjcbedgpmjgcdaaDoorLexA
namespace Go.Proofs.YtjcbedgpmjgcdaaDoor.LexB
open Go.RowKit Go.Proofs.YtjcbedgpmjgcdaaDoor.Hand Go.Proofs.YtjcbedgpmjgcdaaDoorW.PrintWords Go.Proofs.YtjcbedgpmjgcdaaDoorW.PrintLast Go.Proofs.YtjcbedgpmjgcdaaDoorW.PrintMore
open LexA PLex

theorem letter_f (b : UInt8) : lex_letter.f (b.toNat : Int) = some (isL b) := by
  unfold lex_letter.f isL
  by_cases h : 97 ≤ b.toNat
  · rw [if_pos (by omega)]; simp only [h, decide_true, Bool.true_and]; exact congrArg some (decide_eq_decide.mpr (by omega))
  · rw [if_neg (by omega)]; simp only [h, decide_false, Bool.false_and]
theorem digit_f (b : UInt8) : lex_digit.f (b.toNat : Int) = some (isD b) := by
  unfold lex_digit.f isD
  by_cases h : 48 ≤ b.toNat
  · rw [if_pos (by omega)]; simp only [h, decide_true, Bool.true_and]; exact congrArg some (decide_eq_decide.mpr (by omega))
  · rw [if_neg (by omega)]; simp only [h, decide_false, Bool.false_and]

theorem run_ev (p : ByteArray) (hp : p.size ≤ 1000000) : ∀ (d i : Nat), p.size - i = d → i ≤ p.size →
    Ev (fun k => lex_run.l0 k p (i : Int)) ((i + runL (p.data.toList.drop i) : Nat) : Int) := by
  intro d
  induction d with
  | zero =>
    intro i hd hi
    have : i = p.size := by omega
    refine ev_one (fun k => ?_)
    simp only [lex_run.l0]
    rw [if_neg (by omega), List.drop_of_length_le (by rw [size_list]; omega)]
    simp [runL]
  | succ d ih =>
    intro i hd hi
    have hl : i < p.data.toList.length := by rw [size_list]; omega
    have e := List.drop_eq_getElem_cons hl
    have hb := bt_get p i hl
    generalize p.data.toList[i] = b at e hb
    have hw : wrap64 ((i : Int) + 1) = ((i + 1 : Nat) : Int) := by rw [wrap_id (by omega) (by omega)]; omega
    have IH := ih (i + 1) (by omega) (by omega)
    have hs : (i : Int) < (p.size : Int) := by omega
    have h0 : (0 : Int) ≤ (i : Int) := by omega
    rw [e, runL_cons]
    by_cases hL : isL b = true
    · rw [if_pos (by simp [isA, hL])]
      refine Ev.step (f := fun k => lex_run.l0 k p ((i + 1 : Nat) : Int)) (fun k => ?_) (ev_eq IH (by omega))
      simp only [lex_run.l0]
      rw [if_pos hs, if_pos h0, hb, letter_f, hL, hw]; rfl
    · by_cases hD : isD b = true
      · rw [if_pos (by simp [isA, hD])]
        refine Ev.step (f := fun k => lex_run.l0 k p ((i + 1 : Nat) : Int)) (fun k => ?_) (ev_eq IH (by omega))
        simp only [lex_run.l0]
        rw [if_pos hs, if_pos h0, hb, letter_f, digit_f, hD, hw]; simp [hL]
      · rw [if_neg (by simp [isA, hL, hD])]
        refine ev_one (fun k => ?_)
        simp only [lex_run.l0]
        rw [if_pos hs, if_pos h0, hb, letter_f, digit_f]; simp [hL, hD]

theorem run_f (p : ByteArray) (hp : p.size ≤ 1000000) : Ev (fun k => lex_run.f k p) ((runL p.data.toList : Nat) : Int) := by
  have := run_ev p hp p.size 0 (by omega) (by omega)
  simpa [lex_run.f] using this

theorem reserved_ev (s : ByteArray) : Ev (fun k => lex_Reserved.f k s) (decide (s.data.toList ∈ resv)) := by
  refine ⟨1, fun k hk => ?_⟩
  obtain ⟨k, rfl⟩ : ∃ m, k = m + 1 := ⟨k - 1, by omega⟩
  unfold lex_Reserved.f
  rw [Go.ByteArray.toList_eq]
  simp only [lex_Reserved.j0, Go.ByteArray.toList_eq]
  generalize s.data.toList = l
  by_cases hm : l ∈ resv
  · have hm2 := hm
    unfold resv at hm2
    simp only [List.mem_cons, List.not_mem_nil, or_false] at hm2
    rcases hm2 with rfl | rfl | rfl | rfl | rfl | rfl | rfl | rfl | rfl | rfl | rfl | rfl | rfl | rfl | rfl | rfl
    all_goals rfl
  · have hm2 := hm
    unfold resv at hm2
    simp only [List.mem_cons, List.not_mem_nil, or_false, not_or] at hm2
    obtain ⟨h0, h1, h2, h3, h4, h5, h6, h7, h8, h9, h10, h11, h12, h13, h14, h15⟩ := hm2
    simp only [hm, decide_false, h0, h1, h2, h3, h4, h5, h6, h8, h9, h10, h11, h12, h13, h14, h15, if_false]
    have hb : (l == ([112, 114, 111, 99] : List UInt8)) = false := by simpa using h7
    simp [hb]

theorem named_ev (s : ByteArray) (hp : s.size ≤ 12) : Ev (fun k => lex_named.f k s) (if s.data.toList ∈ resv then 4 else 1, s, 0, 0, 0) := by
  have h := reserved_ev s
  refine Ev.congr (f := fun k => (lex_Reserved.f k s).bind fun t102 => if t102 = true then some (4, s, 0, 0, 0) else some (1, s, 0, 0, 0)) (fun k => by unfold lex_named.f; rw [if_neg (by omega)]) ?_
  refine Ev.bind h ?_
  by_cases hm : s.data.toList ∈ resv
  · simp only [hm, decide_true, if_true]; exact Ev.now _
  · simp only [hm, decide_false, if_false, Bool.false_eq_true]; exact Ev.now _

theorem idx_ge (l : Bs) (c : UInt8) : (0 ≤ Lib.indexByte l c) ↔ c ∈ l := by
  induction l with
  | nil => simp [Lib.indexByte]
  | cons b r ih =>
    simp only [Lib.indexByte]
    have hge := Lib.indexByte_ge r c
    by_cases hb : (b == c) = true
    · simp [(beq_iff_eq.mp hb).symm]
    · have hb' : ¬ b = c := by simpa using hb
      simp only [hb, Bool.false_eq_true, if_false]
      by_cases hr : (Lib.indexByte r c == -1) = true
      · simp only [hr, if_true]
        have : ¬ (0 ≤ Lib.indexByte r c) := by have := beq_iff_eq.mp hr; omega
        have : ¬ c ∈ r := fun h => this (ih.mpr h)
        simp [this, Ne.symm hb']
      · simp only [hr, Bool.false_eq_true, if_false]
        have : ¬ Lib.indexByte r c = -1 := by simpa using hr
        have h2 : c ∈ r := ih.mp (by omega)
        simp [h2]; omega
theorem u8_id (b : UInt8) : ((b.toNat : Int)).toNat.toUInt8 = b := by simp

theorem sign_ev (p : ByteArray) (h0 : 0 < p.size) : Ev (fun k => lex_sign.f k p) ((signL p.data.toList : Nat) : Int) := by
  refine ⟨1, fun k hk => ?_⟩
  obtain ⟨k, rfl⟩ : ∃ m, k = m + 1 := ⟨k - 1, by omega⟩
  have hl0 : 0 < p.data.toList.length := by rw [size_list]; omega
  have hb0 := bt_get p 0 hl0
  have e0 : p.data.toList.head? = some (p.data.toList[0]) := by rw [List.head?_eq_getElem?]; exact List.getElem?_eq_getElem hl0
  generalize p.data.toList[0] = a at e0 hb0
  have hb0' : bt p 0 = (a.toNat : Int) := by simpa using hb0
  have J : ∀ x, lex_sign.j0 (k + 1) p x = if x = true then some 2 else some (if a ∈ ones then 1 else 0) := by
    intro x
    simp only [lex_sign.j0]
    cases x with
    | true => simp
    | false =>
      simp only [Bool.false_eq_true, if_false]
      rw [if_pos (by omega), hb0']
      simp only [strings_IndexByte.f, Option.bind_some, u8_id]
      by_cases hm : a ∈ ones
      · have hg : Lib.indexByte [123, 125, 40, 41, 59, 44, 46, 61, 60, 62, 43, 45, 42, 47, 37] a ≥ 0 := (idx_ge ones a).mpr hm
        rw [if_pos hg, if_pos hm]
      · have hg : ¬ Lib.indexByte [123, 125, 40, 41, 59, 44, 46, 61, 60, 62, 43, 45, 42, 47, 37] a ≥ 0 := fun h => hm ((idx_ge ones a).mp h)
        rw [if_neg hg, if_neg hm]
  have ho : (p.data.toList.head? ∈ ones.map some) ↔ a ∈ ones := by rw [e0]; simp
  have ht : (p.data.toList.head? ∈ twos.map some) ↔ a ∈ twos := by rw [e0]; simp
  have hS : signL p.data.toList = if (p.data.toList[1]? = some 61 ∧ a ∈ twos) then 2 else if a ∈ ones then 1 else 0 := by
    unfold signL; simp only [ht, ho]
  rw [hS]
  unfold lex_sign.f
  dsimp only
  by_cases h1 : 1 < p.size
  · have hl1 : 1 < p.data.toList.length := by rw [size_list]; omega
    have hb1 := bt_get p 1 hl1
    have e1 : p.data.toList[1]? = some (p.data.toList[1]) := List.getElem?_eq_getElem hl1
    generalize p.data.toList[1] = c at e1 hb1
    have hb1' : bt p 1 = (c.toNat : Int) := by simpa using hb1
    rw [if_pos (by omega), if_pos (by omega), hb1', e1]
    by_cases hc : c = 61
    · subst hc
      have h61 : (((61 : UInt8).toNat : Nat) : Int) = 61 := rfl
      rw [if_pos h61, if_pos (by omega), hb0']
      simp only [strings_IndexByte.f, Option.bind_some, u8_id, J]
      by_cases hm : a ∈ twos
      · have hg : Lib.indexByte [61, 33, 60, 62] a ≥ 0 := (idx_ge twos a).mpr hm
        simp [hg, hm]
      · have hg : ¬ Lib.indexByte [61, 33, 60, 62] a ≥ 0 := fun h => hm ((idx_ge twos a).mp h)
        simp only [hg, decide_false, Bool.false_eq_true, if_false, hm, and_false]
        by_cases hn : a ∈ ones <;> simp [hn]
    · have hc' : ¬ ((c.toNat : Int) = 61) := by intro h; apply hc; apply UInt8.toNat_inj.mp; have : (61 : UInt8).toNat = 61 := rfl; omega
      rw [if_neg hc', J]
      by_cases hn : a ∈ ones <;> simp [hn, hc]
  · have e1 : p.data.toList[1]? = none := List.getElem?_eq_none (by rw [size_list]; omega)
    rw [if_neg (by omega), J, e1]
    by_cases hn : a ∈ ones <;> simp [hn]

/-! ### lex.number -/
theorem digs_isD (b : UInt8) : digs.contains b = isD b := by
  rw [Bool.eq_iff_iff]
  constructor
  · intro h
    have h : b ∈ digs := by simpa using h
    unfold digs at h
    simp only [List.mem_cons, List.not_mem_nil, or_false] at h
    rcases h with rfl | rfl | rfl | rfl | rfl | rfl | rfl | rfl | rfl | rfl <;> rfl
  · intro h
    simp only [isD, Bool.and_eq_true, decide_eq_true_eq] at h
    have h2 : b.toNat = 48 ∨ b.toNat = 49 ∨ b.toNat = 50 ∨ b.toNat = 51 ∨ b.toNat = 52 ∨ b.toNat = 53 ∨ b.toNat = 54 ∨ b.toNat = 55 ∨ b.toNat = 56 ∨ b.toNat = 57 := by omega
    have e : ∀ n, b.toNat = n → b = UInt8.ofNat n := fun n h => by rw [← h]; simp
    rcases h2 with h | h | h | h | h | h | h | h | h | h <;> (rw [e _ h]; rfl)
theorem dw_nil {p : UInt8 → Bool} {l : Bs} : l.dropWhile p = [] ↔ ∀ x ∈ l, p x = true := by
  induction l with
  | nil => simp
  | cons b r ih =>
    rw [List.dropWhile_cons]
    by_cases h : p b = true
    · rw [if_pos h, ih]; simp [h]
    · rw [if_neg h]; simp [h]
theorem trim_nil (l : Bs) : (Lib.trimS l digs = []) ↔ (l.all isD = true) := by
  have hp : (fun b => digs.contains b) = isD := funext digs_isD
  unfold Lib.trimS Lib.trimLeftS Lib.trimRightS
  rw [show (digs.contains ·) = isD from hp]
  constructor
  · intro h
    rw [dw_nil] at h
    have h2 : List.dropWhile isD l.reverse = [] := by
      cases hm : List.dropWhile isD l.reverse with
      | nil => rfl
      | cons x m =>
        have h3 := List.head_dropWhile_not isD (l := l.reverse) (by rw [hm]; simp)
        have h4 := h x (by rw [List.mem_reverse, hm]; simp)
        simp only [hm, List.head_cons] at h3
        rw [h4] at h3; cases h3
    rw [dw_nil] at h2
    exact List.all_eq_true.mpr fun x hx => h2 x (by simpa using hx)
  · intro h
    have h1 : List.dropWhile isD l.reverse = [] := dw_nil.mpr fun x hx => List.all_eq_true.mp h x (by simpa using hx)
    rw [h1]; rfl
theorem parseM (l : Bs) (h : ∀ b ∈ l, isD b = true) : ∀ acc, acc ≤ 4294967295 →
    Lib.parseUintM 4294967295 acc l = if l.foldl dstep acc ≤ 4294967295 then .ok (l.foldl dstep acc) else .range := by
  induction l with
  | nil => intro acc ha; simp [Lib.parseUintM, ha]
  | cons c r ih =>
    intro acc ha
    have hc := h c List.mem_cons_self
    simp only [isD, Bool.and_eq_true, decide_eq_true_eq] at hc
    have hr := ih (fun x hx => h x (List.mem_cons_of_mem _ hx))
    rw [List.foldl_cons]
    simp only [Lib.parseUintM]
    rw [if_pos hc, if_neg (by omega)]
    have es : acc * 10 + (c.toNat - 48) = dstep acc c := by unfold dstep; omega
    rw [es]
    by_cases hM : 4294967295 < dstep acc c
    · rw [if_pos hM, if_neg]
      have := foldl_ge r (dstep acc c)
      have hp : 1 ≤ 10 ^ r.length := Nat.one_le_pow _ _ (by omega)
      have := Nat.mul_le_mul_left (dstep acc c) hp
      omega
    · rw [if_neg hM, hr _ (by omega)]
theorem parse_all (c : UInt8) (r : Bs) (h : ∀ b ∈ c :: r, isD b = true) :
    Lib.parseIntB 32 (c :: r) = if val (c :: r) ≤ 2147483647 then .ok ((val (c :: r) : Nat) : Int) else .range := by
  have hc := h c List.mem_cons_self
  simp only [isD, Bool.and_eq_true, decide_eq_true_eq] at hc
  have hp := parseM (c :: r) h 0 (by omega)
  simp only [Lib.parseIntB]
  rw [if_neg (by omega)]
  unfold Lib.parseUintB
  rw [if_neg (by simp)]
  rw [show (2 ^ 32 - 1 : Nat) = 4294967295 from rfl, hp, ← val_eq]
  generalize val (c :: r) = v
  have h45 : ¬ (c.toNat = 45) := by omega
  by_cases h1 : v ≤ 4294967295
  · rw [if_pos h1]
    by_cases h2 : v ≤ 2147483647
    · rw [if_pos h2]; dsimp only; rw [if_neg (by rintro ⟨_, h⟩; omega), if_neg (by rintro ⟨h, _⟩; exact h45 h), if_neg h45]
    · rw [if_neg h2]; dsimp only; rw [if_pos ⟨h45, by omega⟩]
  · rw [if_neg h1, if_neg (by omega)]
theorem val_len (c : UInt8) (r : Bs) (hc : isD c = true) (h48 : c ≠ 48) (hv : val (c :: r) ≤ 2147483647) : (c :: r).length ≤ 10 := by
  simp only [isD, Bool.and_eq_true, decide_eq_true_eq] at hc
  have h1 : c.toNat ≠ 48 := fun h => h48 (UInt8.toNat_inj.mp (by rw [h]; rfl))
  rw [val_eq, List.foldl_cons] at hv
  have hg := foldl_ge r (dstep 0 c)
  have hs : 1 ≤ dstep 0 c := by unfold dstep; omega
  have h2 : 10 ^ r.length ≤ 2147483647 := by
    have := Nat.mul_le_mul_right (10 ^ r.length) hs
    omega
  have h3 : r.length < 10 := by
    refine Decidable.byContradiction fun hn => ?_
    have : 10 ^ 10 ≤ 10 ^ r.length := Nat.pow_le_pow_right (by omega) (by omega)
    have : (10 : Nat) ^ 10 = 10000000000 := by decide
    omega
  simp; omega
theorem number_f (s : ByteArray) (c : UInt8) (r : Bs) (e : s.data.toList = c :: r) (hc : isD c = true) (hs : s.size ≤ 1000000) :
    lex_number.f s = if okNum (c :: r) then some (((val (c :: r) : Nat) : Int), 0) else some (0, 3) := by
  have hsz : s.size = (c :: r).length := by rw [← e, size_list]
  have hb := bt_get s 0 (by rw [e]; simp)
  have hb : bt s 0 = (c.toNat : Int) := by simpa [e] using hb
  have h48 : (bt s 0 = 48) ↔ c = 48 := by
    rw [hb]; constructor
    · intro h; exact UInt8.toNat_inj.mp (by have : (48 : UInt8).toNat = 48 := rfl; omega)
    · rintro rfl; rfl
  unfold lex_number.f okNum
  rw [if_pos (by omega), e, hsz]
  have hh : ((c :: r).head? == some 48) = decide (c = 48) := by
    by_cases h : c = 48
    · subst h; rfl
    · simp [h]
  rw [hh]
  by_cases hall : (c :: r).all isD = true
  · have ht := (trim_nil (c :: r)).mpr hall
    by_cases h1 : 1 < (c :: r).length ∧ c = 48
    · rw [if_pos (.inr ⟨h1.1, h48.mpr h1.2⟩)]
      rw [if_neg]
      simp only [Bool.and_eq_true, decide_eq_true_eq, Bool.not_eq_true', Bool.and_eq_false_iff, decide_eq_false_iff_not]
      rintro ⟨⟨⟨_, h | h⟩, _⟩, _⟩
      · exact h h1.1
      · exact h h1.2
    · rw [if_neg (by rintro (h | ⟨h, h'⟩); exact h ht; exact h1 ⟨h, h48.mp h'⟩), parse_all c r (fun b hb => List.all_eq_true.mp hall b hb)]
      by_cases hv : val (c :: r) ≤ 2147483647
      · have hl : (c :: r).length ≤ 10 := by
          by_cases hz : c = 48
          · have : ¬ 1 < (c :: r).length := fun h => h1 ⟨h, hz⟩
            omega
          · exact val_len c r hc hz hv
        rw [if_pos hv, if_pos]
        simp only [Bool.and_eq_true, hall, decide_eq_true_eq, hv, hl, and_true, true_and, Bool.not_eq_true', Bool.and_eq_false_iff, decide_eq_false_iff_not]
        by_cases hz : c = 48
        · left; exact fun h => h1 ⟨h, hz⟩
        · right; exact hz
      · rw [if_neg hv, if_neg]
        simp only [Bool.and_eq_true, decide_eq_true_eq, hv, and_false, not_false_eq_true]
  · rw [if_pos (.inl fun h => hall ((trim_nil _).mp h)), if_neg]
    intro h
    simp only [Bool.and_eq_true] at h
    exact hall h.1.2

/-! ### lex.word, lex.Lex -/
theorem word_ev (p : ByteArray) (b : UInt8) (r : Bs) (e : p.data.toList = b :: r) (hp : p.size ≤ 1000000) :
    match word1 (b :: r) with
    | .ok w => Ev (fun k => lex_word.f k p) (w.kind, p.extract 0 w.len, (w.num : Int), 0, 0)
    | .error c => ∃ x y z u, c ≠ 0 ∧ Ev (fun k => lex_word.f k p) (x, y, z, u, c) := by
  have hsz : p.size = (b :: r).length := by rw [← e, size_list]
  have h0 : 0 < p.size := by rw [hsz]; simp
  have hb := bt_get p 0 (by rw [e]; simp)
  have hb : bt p 0 = (b.toNat : Int) := by simpa [e] using hb
  have hrun := run_f p hp
  rw [e] at hrun
  have hrl := runL_le (b :: r)
  have hxl : (p.extract 0 (runL (b :: r))).data.toList = (b :: r).take (runL (b :: r)) := by rw [ext_list, e]; simp
  have hxs : (p.extract 0 (runL (b :: r))).size = runL (b :: r) := by rw [← size_list, hxl, List.length_take]; omega
  have hi0 : (0 : Int) < (p.size : Int) := by omega
  by_cases hL : isL b = true
  · have E : ∀ k, lex_word.f k p = (lex_run.f k p).bind fun t109 => (if 0 ≤ t109 then (if t109 ≤ (p.size : Int) then ((lex_named.f k (p.extract 0 (t109 : Int).toNat)).bind fun bt110 => (some (bt110.1, bt110.2.1, bt110.2.2.1, bt110.2.2.2.1, bt110.2.2.2.2))) else (none)) else (none)) := by
      intro k; unfold lex_word.f; rw [if_pos hi0, hb, letter_f, hL]; rfl
    have F : ∀ x, Ev (fun k => lex_named.f k (p.extract 0 (runL (b :: r)))) x → Ev (fun k => lex_word.f k p) x := by
      intro x hx
      refine Ev.congr E (Ev.bind hrun ?_)
      refine Ev.congr (f := fun k => (lex_named.f k (p.extract 0 (runL (b :: r)))).bind fun bt110 => (some (bt110.1, bt110.2.1, bt110.2.2.1, bt110.2.2.2.1, bt110.2.2.2.2))) (fun k => ?_) (Ev.bind hx (Ev.now _))
      rw [if_pos (by omega), if_pos (by omega), Int.toNat_natCast]
    rw [word1_cons, if_pos hL]
    by_cases h12 : 12 < runL (b :: r)
    · rw [if_pos h12]
      refine ⟨_, _, _, _, by decide, F (0, (⟨#[]⟩ : ByteArray), 0, 0, 3) (Ev.congr (f := fun _ => some (0, (⟨#[]⟩ : ByteArray), 0, 0, 3)) (fun k => ?_) (Ev.now _))⟩
      unfold lex_named.f; rw [if_pos (by omega)]
    · rw [if_neg h12]
      have hn := named_ev (p.extract 0 (runL (b :: r))) (by omega)
      rw [hxl] at hn
      exact F _ hn
  · have hL' : isL b = false := by simpa using hL
    by_cases hD : isD b = true
    · have hxe : (p.extract 0 (runL (b :: r))).data.toList = b :: r.take (runL (b :: r) - 1) := by
        rw [hxl]
        have := runL_pos (b := b) (l := r) (by simp [isA, hD])
        obtain ⟨n, hn⟩ : ∃ n, runL (b :: r) = n + 1 := ⟨runL (b :: r) - 1, by omega⟩
        rw [hn]; simp
      have hnum := number_f (p.extract 0 (runL (b :: r))) b _ hxe hD (by omega)
      rw [← hxe, hxl] at hnum
      have E : ∀ k, lex_word.f k p = (lex_run.f k p).bind fun t116 => (if 0 ≤ t116 then (if t116 ≤ (p.size : Int) then ((lex_number.f (p.extract 0 (t116 : Int).toNat)).bind fun bt117 => (some (2, p.extract 0 (t116 : Int).toNat, bt117.1, 0, bt117.2))) else (none)) else (none)) := by
        intro k; unfold lex_word.f; rw [if_pos hi0, hb, letter_f, digit_f, hL', hD]; rfl
      have F : ∀ x, ((lex_number.f (p.extract 0 (runL (b :: r)))).bind fun bt117 => (some (2, p.extract 0 (runL (b :: r)), bt117.1, 0, bt117.2))) = some x → Ev (fun k => lex_word.f k p) x := by
        intro x hx
        refine Ev.congr E (Ev.bind hrun ?_)
        refine Ev.congr (f := fun _ => some x) (fun k => ?_) (Ev.now _)
        rw [if_pos (by omega), if_pos (by omega), Int.toNat_natCast]; exact hx
      rw [word1_cons, if_neg hL, if_pos hD]
      by_cases ho : okNum ((b :: r).take (runL (b :: r))) = true
      · rw [if_pos ho]; rw [if_pos ho] at hnum
        exact F _ (by rw [hnum]; rfl)
      · rw [if_neg ho]; rw [if_neg ho] at hnum
        exact ⟨_, _, _, _, by decide, F _ (by rw [hnum]; rfl)⟩
    · have hD' : isD b = false := by simpa using hD
      have hs := sign_ev p h0
      rw [e] at hs
      have E : ∀ k, lex_word.f k p = (lex_sign.f k p).bind fun t119 => (if t119 = 0 then (some (0, (⟨#[]⟩ : ByteArray), 0, 0, 2)) else (if 0 ≤ t119 then (if t119 ≤ (p.size : Int) then (some (3, p.extract 0 (t119 : Int).toNat, 0, 0, 0)) else (none)) else (none))) := by
        intro k; unfold lex_word.f; rw [if_pos hi0, hb, letter_f, digit_f, hL', hD']; rfl
      have hsl := signL_le (b :: r)
      rw [word1_cons, if_neg hL, if_neg hD]
      by_cases hz : signL (b :: r) = 0
      · rw [if_pos hz]
        refine ⟨0, (⟨#[]⟩ : ByteArray), 0, 0, by decide, Ev.congr E (Ev.bind hs (Ev.congr (f := fun _ => some (0, (⟨#[]⟩ : ByteArray), 0, 0, 2)) (fun k => ?_) (Ev.now _)))⟩
        rw [if_pos (by omega)]
      · rw [if_neg hz]
        refine Ev.congr E (Ev.bind hs (Ev.congr (f := fun _ => some (3, p.extract 0 (signL (b :: r)), 0, 0, 0)) (fun k => ?_) (Ev.now _)))
        rw [if_neg (by omega), if_pos (by omega), if_pos (by omega), Int.toNat_natCast]

def t67 (t : Tok) : S67 := ⟨t.kind, ⟨t.text.toArray⟩, (t.num : Int), (t.at_ : Int)⟩
def fin67 (size : Nat) (z : List Tok × Option (Nat × Int)) : List S67 × Int × Int :=
  ((told size z).1.map t67, (told size z).2.1, (told size z).2.2)
theorem fin_app (size : Nat) (acc : List Tok) (p : Nat) (e : Int) : fin67 size (acc, some (p, e)) = ([], (p : Int), e) := rfl

theorem lex_l0 (s : ByteArray) (hs : s.size ≤ 1000000) : ∀ (d i : Nat) (acc : List Tok), s.size - i = d → i ≤ s.size → acc.length ≤ i →
    Ev (fun k => lex_Lex.l0 k s (acc.map t67) (i : Int)) (fin67 s.size (acc ++ (lexS (s.data.toList.drop i) i).1, (lexS (s.data.toList.drop i) i).2)) := by
  intro d
  induction d using Nat.strongRecOn with
  | _ d ih =>
  intro i acc hd hi ha
  by_cases hlt : i < s.size
  · have hl : i < s.data.toList.length := by rw [size_list]; omega
    have e := List.drop_eq_getElem_cons hl
    have hb := bt_get s i hl
    generalize s.data.toList[i] = b at e hb
    have hw : wrap64 ((i : Int) + 1) = ((i + 1 : Nat) : Int) := by rw [wrap_id (by omega) (by omega)]; omega
    have hs1 : (i : Int) < (s.size : Int) := by omega
    have h0 : (0 : Int) ≤ (i : Int) := by omega
    have J : ∀ k, lex_Lex.l0 (k + 1) s (acc.map t67) (i : Int) = lex_Lex.j1 k s (acc.map t67) (i : Int) (isB b) := by
      intro k
      simp only [lex_Lex.l0]
      rw [if_pos hs1, if_pos h0, hb]
      have h32 : ((b.toNat : Int) = 32) ↔ b = 32 := by
        constructor
        · intro h; exact UInt8.toNat_inj.mp (by have : (32 : UInt8).toNat = 32 := rfl; omega)
        · rintro rfl; rfl
      have h10 : ((b.toNat : Int) == 10) = (b == 10) := by
        rw [Bool.eq_iff_iff, beq_iff_eq, beq_iff_eq]
        constructor
        · intro h; exact UInt8.toNat_inj.mp (by have : (10 : UInt8).toNat = 10 := rfl; omega)
        · rintro rfl; rfl
      by_cases hc : b = 32
      · rw [if_pos (h32.mpr hc), hc]; rfl
      · rw [if_neg (fun h => hc (h32.mp h)), h10]
        have : (b == 32) = false := by simpa using hc
        simp [isB, this]
    refine Ev.step J ?_
    rw [e]
    by_cases hB : isB b = true
    · rw [lexS_blank _ _ hB, hB]
      refine Ev.step (f := fun k => lex_Lex.l0 k s (acc.map t67) ((i + 1 : Nat) : Int)) (fun k => ?_) (ih (s.size - (i + 1)) (by omega) (i + 1) acc rfl (by omega) (by omega))
      simp only [lex_Lex.j1, if_true]; rw [hw]
    · have hB' : isB b = false := by simpa using hB
      rw [hB']
      have hpl : (s.extract i s.size).data.toList = b :: s.data.toList.drop (i + 1) := by rw [ext_drop, e]
      have hps : (s.extract i s.size).size ≤ 1000000 := by rw [ByteArray.size_extract]; omega
      have hwd := word_ev (s.extract i s.size) b _ hpl hps
      have E : ∀ k, lex_Lex.j1 (k + 1) s (acc.map t67) (i : Int) false = (lex_word.f k (s.extract i s.size)).bind fun bt120 => (if bt120.2.2.2.2 = 0 then (if (acc.map t67).length < 3518437208883 then (lex_Lex.l0 k s ((acc.map t67) ++ [(⟨bt120.1, bt120.2.1, bt120.2.2.1, (i : Int)⟩ : S67)]) (wrap64 ((i : Int) + (bt120.2.1.size : Int)))) else (none)) else (some (([] : List (S67)), (i : Int), bt120.2.2.2.2))) := by
        intro k
        simp only [lex_Lex.j1, Bool.false_eq_true, if_false]
        rw [if_pos h0, if_pos (by omega), Int.toNat_natCast]
      refine Ev.step E ?_
      cases hw1 : word1 (b :: s.data.toList.drop (i + 1)) with
      | error c =>
        rw [hw1] at hwd
        obtain ⟨x, y, z, u, hc, hE⟩ := hwd
        refine Ev.bind hE (Ev.congr (f := fun _ => some (([] : List (S67)), (i : Int), c)) (fun k => ?_) ?_)
        · rw [if_neg hc]
        · rw [lexS_error hB' hw1, fin_app]; exact Ev.now _
      | ok w =>
        rw [hw1] at hwd
        have hlen := word1_len hw1
        have hlen2 : w.len ≤ s.size - i := by
          have := hlen.2
          rw [← hpl, ext_drop, List.length_drop, size_list] at this
          exact this
        have hx : (s.extract i s.size).extract 0 w.len = (⟨((b :: s.data.toList.drop (i + 1)).take w.len).toArray⟩ : ByteArray) := by
          refine list_ext ?_
          rw [ext_list, hpl]; simp
        have hxs : ((⟨((b :: s.data.toList.drop (i + 1)).take w.len).toArray⟩ : ByteArray)).size = w.len := by
          rw [← size_list]; simp only [List.length_take]
          omega
        have hd2 : (b :: s.data.toList.drop (i + 1)).drop w.len = s.data.toList.drop (i + w.len) := by
          rw [← e, List.drop_drop]
        have IH := ih (s.size - (i + w.len)) (by omega) (i + w.len) (acc ++ [(⟨w.kind, (b :: s.data.toList.drop (i + 1)).take w.len, w.num, i⟩ : Tok)]) rfl (by omega) (by simp; omega)
        refine Ev.bind hwd (Ev.congr (f := fun k => lex_Lex.l0 k s ((acc ++ [(⟨w.kind, (b :: s.data.toList.drop (i + 1)).take w.len, w.num, i⟩ : Tok)]).map t67) ((i + w.len : Nat) : Int)) (fun k => ?_) ?_)
        · rw [if_pos rfl, if_pos (by simp; omega)]
          dsimp only
          rw [hx, hxs, wrap_id (by omega) (by omega)]
          simp [t67]
        · rw [lexS_ok hB' hw1, hd2]
          refine ev_eq IH ?_
          simp
  · have hie : i = s.size := by omega
    have hnil : s.data.toList.drop i = [] := List.drop_of_length_le (by rw [size_list]; omega)
    rw [hnil, lexS_nil]
    refine ev_one (fun k => ?_)
    simp only [lex_Lex.l0]
    rw [if_neg (by omega)]
    simp only [List.append_nil, fin67, told, List.length_map]
    by_cases h2 : 2000 < acc.length
    · rw [if_pos (by omega), if_pos h2]; rfl
    · rw [if_neg (by omega), if_neg h2]
theorem lex_ev (s : ByteArray) (hs : s.size ≤ 1000000) : Ev (fun k => lex_Lex.f k s) (fin67 s.size (lexS s.data.toList 0)) := by
  have := lex_l0 s hs s.size 0 [] (by omega) (by omega) (by simp)
  simpa [lex_Lex.f] using this
end Go.Proofs.YtjcbedgpmjgcdaaDoor.LexB
