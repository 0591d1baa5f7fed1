/- What lexing is, over lists of bytes, and small facts on bytes and rounds; no program in sight. -/
import Derived.Test.YtokjbpmjdcbogaaGreatDoorHandA
import Derived.Test.YtokjbpmjdcbogaaGreatDoorAbsU
import Derived.Test.YtokjbpmjdcbogaaGreatDoorGwD
import Derived.Lib.ItoaLen
namespace Go.Proofs.YtokjbpmjdcbogaaGreatDoor.Abs
open Go Go.RowKit
set_option linter.unusedVariables false
set_option linter.unusedSimpArgs false
theorem iter_in {X O : Type} {body : X → Option (Sum X O)} {x y : X} (h : body x = some (.inl y)) : iter body x = iter body y := by rw [iter_eq, h]; rfl
theorem iter_out {X O : Type} {body : X → Option (Sum X O)} {x : X} {r : O} (h : body x = some (.inr r)) : iter body x = some r := by rw [iter_eq, h]; rfl
theorem app_ok {α : Type} {B : Nat} {L M : List α} (h : (L.length + M.length) * B ≤ 140737488355328) : app B L M = some (L ++ M) := by unfold app; rw [if_pos h]
theorem idx_ok {α : Type} {l : List α} {i : Nat} (h : i < l.length) : idx l (i : Int) = some l[i] := by
  unfold idx; rw [if_pos (by omega)]; simp [h]
/-! ### Bytes -/
theorem size_list (s : ByteArray) : s.data.toList.length = s.size := by rw [Array.length_toList]; rfl
theorem bt_get (s : ByteArray) (i : Nat) (h : i < s.data.toList.length) : bt s (i : Int) = ((s.data.toList[i]).toNat : Int) := by
  have h' : i < s.size := by rw [← size_list]; exact h
  have := bt_at s (i : Int) (by simpa using h')
  rw [← this]; simp; rfl
theorem ext_list (s : ByteArray) (a b : Nat) : (s.extract a b).data.toList = (s.data.toList.take b).drop a := by simp [List.drop_take]
theorem ext_drop (s : ByteArray) (a : Nat) : (s.extract a s.size).data.toList = s.data.toList.drop a := by
  rw [ext_list, List.take_of_length_le (by rw [size_list]; omega)]
theorem list_ext {s t : ByteArray} (h : s.data.toList = t.data.toList) : s = t := ByteArray.ext (Array.toList_inj.mp h)

/-! ### What lexing is -/
abbrev Bs := List UInt8
def isL (b : UInt8) : Bool := decide (97 ≤ b.toNat) && decide (b.toNat ≤ 122)
def isD (b : UInt8) : Bool := decide (48 ≤ b.toNat) && decide (b.toNat ≤ 57)
def isA (b : UInt8) : Bool := isL b || isD b
def isB (b : UInt8) : Bool := b == 32 || b == 10
def runL (l : Bs) : Nat := (l.takeWhile isA).length
def resv : List Bs := [[99, 104, 97, 110], [98, 108, 111, 99, 107], [100, 114, 111, 112], [108, 111, 115, 115, 121], [102, 114, 111, 109], [116, 111], [114, 117, 108, 101], [112, 114, 111, 99], [118, 97, 114], [105, 102], [101, 108, 115, 101], [119, 104, 105, 108, 101], [115, 101, 110, 100], [114, 101, 99, 118], [97, 115, 115, 101, 114, 116], [105, 110, 112, 117, 116]]
def dval (l : Bs) : Nat := l.foldl (fun a b => 10 * a + (b.toNat - 48)) 0
def okNum (t : Bs) : Bool := decide (t.length ≤ 10) && !(decide (1 < t.length) && t.head? == some 48) && t.all isD && decide (dval t ≤ 2147483647)
def ones : Bs := [123, 125, 40, 41, 59, 44, 46, 61, 60, 62, 43, 45, 42, 47, 37]
def twos : Bs := [61, 33, 60, 62]
def signL (l : Bs) : Nat :=
  if l[1]? = some 61 ∧ l.head? ∈ twos.map some then 2 else if l.head? ∈ ones.map some then 1 else 0
structure W where
  kind : Int
  len : Nat
  num : Nat
/-- The word that a text begins with, or the error. -/
def word1 (l : Bs) : Except Int W :=
  match l with
  | [] => .error 2
  | b :: _ =>
    if isL b then (if 12 < runL l then .error 3 else .ok ⟨if l.take (runL l) ∈ resv then 4 else 1, runL l, 0⟩)
    else if isD b then (if okNum (l.take (runL l)) then .ok ⟨2, runL l, dval (l.take (runL l))⟩ else .error 3)
    else if signL l = 0 then .error 2 else .ok ⟨3, signL l, 0⟩
theorem word1_cons (b : UInt8) (r : Bs) : word1 (b :: r) =
    if isL b then (if 12 < runL (b :: r) then .error 3 else .ok ⟨if (b :: r).take (runL (b :: r)) ∈ resv then 4 else 1, runL (b :: r), 0⟩)
    else if isD b then (if okNum ((b :: r).take (runL (b :: r))) then .ok ⟨2, runL (b :: r), dval ((b :: r).take (runL (b :: r)))⟩ else .error 3)
    else if signL (b :: r) = 0 then .error 2 else .ok ⟨3, signL (b :: r), 0⟩ := rfl
structure Tok where
  kind : Int
  text : Bs
  num : Nat
  at_ : Nat
/-- All words from a place on, and the error with its place. -/
def lexS (l : Bs) (p : Nat) : List Tok × Option (Nat × Int) :=
  match l with
  | [] => ([], none)
  | b :: r =>
    if isB b then lexS r (p + 1)
    else match word1 (b :: r) with
      | .error e => ([], some (p, e))
      | .ok w => let z := lexS (r.drop (w.len - 1)) (p + w.len); (⟨w.kind, (b :: r).take w.len, w.num, p⟩ :: z.1, z.2)
termination_by l.length
decreasing_by all_goals (simp; try omega)
/-- What is told. -/
def told (size : Nat) (z : List Tok × Option (Nat × Int)) : List Tok × Int × Int :=
  match z.2 with
  | some (p, e) => ([], (p : Int), e)
  | none => if 2000 < z.1.length then ([], (size : Int), 4) else (z.1, 0, 0)

/-! ### Facts -/
theorem runL_le (l : Bs) : runL l ≤ l.length := by
  unfold runL; have := List.takeWhile_prefix (p := isA) (l := l); exact this.length_le
theorem runL_cons (b : UInt8) (l : Bs) : runL (b :: l) = if isA b then runL l + 1 else 0 := by
  unfold runL; rw [List.takeWhile_cons]; split <;> simp
theorem runL_pos {b : UInt8} {l : Bs} (h : isA b = true) : 0 < runL (b :: l) := by rw [runL_cons, if_pos h]; omega
theorem signL_le (l : Bs) : signL l ≤ l.length := by
  unfold signL
  split
  · rename_i h; have := (List.getElem?_eq_some_iff.mp h.1).1; omega
  · split
    · rename_i h; cases l with
      | nil => simp at h
      | cons a t => simp
    · omega
theorem word1_len {l : Bs} {w : W} (h : word1 l = .ok w) : 0 < w.len ∧ w.len ≤ l.length := by
  cases l with
  | nil => simp [word1] at h
  | cons b r =>
    simp only [word1] at h
    split at h
    · rename_i hb; split at h
      · cases h
      · cases h; exact ⟨runL_pos (by simp [isA, hb]), runL_le _⟩
    · split at h
      · rename_i hb; split at h
        · cases h; exact ⟨runL_pos (by simp [isA, hb]), runL_le _⟩
        · cases h
      · split at h
        · cases h
        · rename_i hz; cases h; exact ⟨by simp; omega, signL_le _⟩
theorem lexS_nil (p : Nat) : lexS [] p = ([], none) := by rw [lexS]
theorem lexS_blank {b : UInt8} (r : Bs) (p : Nat) (h : isB b = true) : lexS (b :: r) p = lexS r (p + 1) := by rw [lexS, if_pos h]
theorem lexS_error {b : UInt8} {r : Bs} {p : Nat} {e : Int} (h : isB b = false) (hw : word1 (b :: r) = .error e) : lexS (b :: r) p = ([], some (p, e)) := by
  rw [lexS, if_neg (by simp [h]), hw]
theorem lexS_ok {b : UInt8} {r : Bs} {p : Nat} {w : W} (h : isB b = false) (hw : word1 (b :: r) = .ok w) :
    lexS (b :: r) p = (⟨w.kind, (b :: r).take w.len, w.num, p⟩ :: (lexS ((b :: r).drop w.len) (p + w.len)).1, (lexS ((b :: r).drop w.len) (p + w.len)).2) := by
  rw [lexS, if_neg (by simp [h]), hw]
  have := (word1_len hw).1
  have e : (b :: r).drop w.len = r.drop (w.len - 1) := by
    obtain ⟨n, hn⟩ : ∃ n, w.len = n + 1 := ⟨w.len - 1, by omega⟩
    rw [hn]; simp
  rw [e]

/-! ### Numbers -/
def dstep (a : Nat) (b : UInt8) : Nat := 10 * a + (b.toNat - 48)
theorem foldl_ge (l : Bs) : ∀ a, a * 10 ^ l.length ≤ l.foldl dstep a := by
  induction l with
  | nil => intro a; simp
  | cons b r ih =>
    intro a
    have h := ih (dstep a b)
    simp only [List.foldl_cons, List.length_cons]
    refine Nat.le_trans ?_ h
    rw [Nat.pow_succ, Nat.mul_comm (10 ^ r.length) 10, ← Nat.mul_assoc]
    exact Nat.mul_le_mul_right _ (by unfold dstep; omega)
theorem foldl_lt (l : Bs) (h : ∀ b ∈ l, isD b = true) : ∀ a, l.foldl dstep a < (a + 1) * 10 ^ l.length := by
  induction l with
  | nil => intro a; simp
  | cons b r ih =>
    intro a
    have hr := ih (fun x hx => h x (List.mem_cons_of_mem _ hx)) (dstep a b)
    have hb := h b List.mem_cons_self
    simp only [List.foldl_cons, List.length_cons]
    refine Nat.lt_of_lt_of_le hr ?_
    rw [Nat.pow_succ, Nat.mul_comm (10 ^ r.length) 10, ← Nat.mul_assoc]
    refine Nat.mul_le_mul_right _ ?_
    unfold dstep
    simp only [isD, Bool.and_eq_true, decide_eq_true_eq] at hb
    omega
theorem dval_eq (l : Bs) : dval l = l.foldl dstep 0 := rfl
theorem bidx_get (s : ByteArray) (i : Nat) (h : i < s.data.toList.length) : bidx s (i : Int) = some ((s.data.toList[i]).toNat : Int) := by
  have h' : i < s.size := by rw [← size_list]; exact h
  unfold bidx
  rw [if_pos (by omega), Int.toNat_natCast, getElem?_pos s i h']
  rfl
theorem ssub_ok {s : ByteArray} {a b : Nat} (h1 : a ≤ b) (h2 : b ≤ s.size) : ssub s (a : Int) (b : Int) = some (s.extract a b) := by
  unfold ssub; rw [if_pos ⟨by omega, by omega, by omega⟩]; simp
end Go.Proofs.YtokjbpmjdcbogaaGreatDoor.Abs
/- lex.Lex, as it is printed, comes to what lexing is, of all texts of at most 4,194,304 bytes. -/
namespace Go.Proofs.YtokjbpmjdcbogaaGreatDoor.Abs
open Go Go.RowKit
set_option linter.unusedVariables false
set_option linter.unusedSimpArgs false
theorem letter_f (b : UInt8) : lex_letter (b.toNat : Int) = some (isL b) := by
  unfold lex_letter isL
  by_cases h : 97 ≤ b.toNat
  · rw [if_pos (by simp; omega)]; simp only [h, decide_true, Bool.true_and]; exact congrArg some (decide_eq_decide.mpr (by omega))
  · rw [if_neg (by simp; omega)]; simp only [h, decide_false, Bool.false_and]
theorem digit_f (b : UInt8) : lex_digit (b.toNat : Int) = some (isD b) := by
  unfold lex_digit isD
  by_cases h : 48 ≤ b.toNat
  · rw [if_pos (by simp; omega)]; simp only [h, decide_true, Bool.true_and]; exact congrArg some (decide_eq_decide.mpr (by omega))
  · rw [if_neg (by simp; omega)]; simp only [h, decide_false, Bool.false_and]
theorem run_it (p : ByteArray) (hp : p.size ≤ 4194304) : ∀ (d i : Nat), p.size - i = d → i ≤ p.size →
    iter (lex_run_l1 p) (i : Int) = some (.inr ((i + runL (p.data.toList.drop i) : Nat) : Int)) := by
  intro d
  induction d with
  | zero =>
    intro i hd hi
    have : i = p.size := by omega
    refine iter_out ?_
    unfold lex_run_l1
    rw [if_neg (by simp; omega), List.drop_of_length_le (by rw [size_list]; omega)]
    simp [runL]
  | succ d ih =>
    intro i hd hi
    have hl : i < p.data.toList.length := by rw [size_list]; omega
    have e := List.drop_eq_getElem_cons hl
    have hb := bidx_get p i hl
    generalize p.data.toList[i] = b at e hb
    have hw : IntKind.i64.wrap ((i : Int) + 1) = ((i + 1 : Nat) : Int) := by rw [w64 (by omega) (by omega)]; omega
    have IH := ih (i + 1) (by omega) (by omega)
    have hs : (decide ((i : Int) < (p.size : Int))) = true := by simp; omega
    rw [e, runL_cons]
    by_cases hA : isA b = true
    · rw [if_pos hA]
      rw [iter_in (y := ((i + 1 : Nat) : Int)) ?_, IH]
      · congr 2; omega
      · unfold lex_run_l1
        rw [if_pos hs, hb]
        simp only [Option.bind_eq_bind, Option.bind_some, letter_f, digit_f, hw]
        unfold isA at hA
        cases hL : isL b
        · rw [hL] at hA; simp only [Bool.false_or] at hA; simp [hA]
        · simp
    · rw [if_neg hA]
      refine iter_out ?_
      unfold lex_run_l1
      rw [if_pos hs, hb]
      simp only [Option.bind_eq_bind, Option.bind_some, letter_f, digit_f]
      unfold isA at hA
      simp only [Bool.or_eq_true, not_or, Bool.not_eq_true] at hA
      simp [hA.1, hA.2]
theorem run_f (p : ByteArray) (hp : p.size ≤ 4194304) : lex_run p = some ((runL p.data.toList : Nat) : Int) := by
  have := run_it p hp p.size 0 (by omega) (by omega)
  unfold lex_run
  rw [show ((0 : Int)) = ((0 : Nat) : Int) from rfl, this]
  simp
theorem reserved_f (s : ByteArray) : lex_Reserved s = some (decide (s.data.toList ∈ resv)) := by
  unfold lex_Reserved
  simp only [Go.ByteArray.toList_eq]
  generalize s.data.toList = l
  by_cases hm : l ∈ resv
  · have hm2 := hm
    unfold resv at hm2
    simp only [List.mem_cons, List.not_mem_nil, or_false] at hm2
    rcases hm2 with rfl | rfl | rfl | rfl | rfl | rfl | rfl | rfl | rfl | rfl | rfl | rfl | rfl | rfl | rfl | rfl
    all_goals rfl
  · have hm2 := hm
    unfold resv at hm2
    simp only [List.mem_cons, List.not_mem_nil, or_false, not_or] at hm2
    obtain ⟨h0, h1, h2, h3, h4, h5, h6, h7, h8, h9, h10, h11, h12, h13, h14, h15⟩ := hm2
    simp only [hm, decide_false, beq_iff_eq, h0, h1, h2, h3, h4, h5, h6, h7, h8, h9, h10, h11, h12, h13, h14, h15, if_false]
theorem named_f (s : ByteArray) (hp : s.size ≤ 12) : lex_named s = some (⟨if s.data.toList ∈ resv then 4 else 1, s, 0, 0⟩, 0) := by
  unfold lex_named
  rw [if_neg (by simp; omega), reserved_f]
  by_cases hm : s.data.toList ∈ resv <;> simp [hm]
theorem idx_ge (l : Bs) (c : UInt8) : (0 ≤ Lib.indexByte l c) ↔ c ∈ l := by
  induction l with
  | nil => simp [Lib.indexByte]
  | cons b r ih =>
    simp only [Lib.indexByte]
    have hge := Lib.indexByte_ge r c
    by_cases hb : (b == c) = true
    · simp [(beq_iff_eq.mp hb).symm]
    · have hb' : ¬ b = c := by simpa using hb
      simp only [hb, Bool.false_eq_true, if_false]
      by_cases hr : (Lib.indexByte r c == -1) = true
      · simp only [hr, if_true]
        have : ¬ (0 ≤ Lib.indexByte r c) := by have := beq_iff_eq.mp hr; omega
        have : ¬ c ∈ r := fun h => this (ih.mpr h)
        simp [this, Ne.symm hb']
      · simp only [hr, Bool.false_eq_true, if_false]
        have : ¬ Lib.indexByte r c = -1 := by simpa using hr
        have h2 : c ∈ r := ih.mp (by omega)
        simp [h2]; omega
theorem u8_id (b : UInt8) : ((b.toNat : Int)).toNat.toUInt8 = b := by simp

theorem ibyte_f (l : Bs) (c : UInt8) : ∃ z, ibyte ⟨l.toArray⟩ (c.toNat : Int) = some z ∧ (decide (z ≥ 0) = decide (c ∈ l)) := by
  refine ⟨_, rfl, ?_⟩
  rw [u8_id]
  exact decide_eq_decide.mpr (idx_ge l c)
theorem sign_f (p : ByteArray) (h0 : 0 < p.size) : lex_sign p = some ((signL p.data.toList : Nat) : Int) := by
  have hl0 : 0 < p.data.toList.length := by rw [size_list]; omega
  have hb0 := bidx_get p 0 hl0
  have e0 : p.data.toList.head? = some (p.data.toList[0]) := by rw [List.head?_eq_getElem?]; exact List.getElem?_eq_getElem hl0
  generalize p.data.toList[0] = a at e0 hb0
  obtain ⟨z1, hz1, hd1⟩ := ibyte_f ones a
  obtain ⟨z2, hz2, hd2⟩ := ibyte_f twos a
  have ho : (p.data.toList.head? ∈ ones.map some) ↔ a ∈ ones := by rw [e0]; simp
  have ht : (p.data.toList.head? ∈ twos.map some) ↔ a ∈ twos := by rw [e0]; simp
  have hS : signL p.data.toList = if (p.data.toList[1]? = some 61 ∧ a ∈ twos) then 2 else if a ∈ ones then 1 else 0 := by
    unfold signL; simp only [ht, ho]
  rw [hS]
  unfold lex_sign
  have hz1 : ibyte (ByteArray.mk #[123, 125, 40, 41, 59, 44, 46, 61, 60, 62, 43, 45, 42, 47, 37]) (a.toNat : Int) = some z1 := hz1
  have hz2 : ibyte (ByteArray.mk #[61, 33, 60, 62]) (a.toNat : Int) = some z2 := hz2
  have hb0 : bidx p 0 = some (a.toNat : Int) := hb0
  simp only [hb0, Option.bind_eq_bind, Option.bind_some, hz1, hz2, hd1, hd2]
  by_cases h1 : 1 < p.size
  · have hl1 : 1 < p.data.toList.length := by rw [size_list]; omega
    have hb1 := bidx_get p 1 hl1
    have e1 : p.data.toList[1]? = some (p.data.toList[1]) := List.getElem?_eq_getElem hl1
    generalize p.data.toList[1] = c at e1 hb1
    have hb1 : bidx p 1 = some (c.toNat : Int) := hb1
    have hc61 : ((c.toNat : Int) == 61) = decide (c = 61) := by
      by_cases hc : c = 61
      · subst hc; rfl
      · have : ¬ ((c.toNat : Int) = 61) := by intro h; apply hc; apply UInt8.toNat_inj.mp; have : (61 : UInt8).toNat = 61 := rfl; omega
        simp [hc, this]
    have hgt : (decide ((p.size : Int) > 1)) = true := by simp; omega
    rw [e1]
    simp only [hgt, if_true, hb1, Option.bind_some, hc61]
    by_cases hc : c = 61 <;> by_cases hm : a ∈ twos <;> by_cases hn : a ∈ ones <;> simp [hc, hm, hn]
  · have e1 : p.data.toList[1]? = none := List.getElem?_eq_none (by rw [size_list]; omega)
    have hgt : (decide ((p.size : Int) > 1)) = false := by simp; omega
    rw [e1]
    simp only [hgt]
    by_cases hn : a ∈ ones <;> simp [hn]
/-! ### lex.number -/
theorem digs_isD (b : UInt8) : digs.contains b = isD b := by
  rw [Bool.eq_iff_iff]
  constructor
  · intro h
    have h : b ∈ digs := by simpa using h
    unfold digs at h
    simp only [List.mem_cons, List.not_mem_nil, or_false] at h
    rcases h with rfl | rfl | rfl | rfl | rfl | rfl | rfl | rfl | rfl | rfl <;> rfl
  · intro h
    simp only [isD, Bool.and_eq_true, decide_eq_true_eq] at h
    have h2 : b.toNat = 48 ∨ b.toNat = 49 ∨ b.toNat = 50 ∨ b.toNat = 51 ∨ b.toNat = 52 ∨ b.toNat = 53 ∨ b.toNat = 54 ∨ b.toNat = 55 ∨ b.toNat = 56 ∨ b.toNat = 57 := by omega
    have e : ∀ n, b.toNat = n → b = UInt8.ofNat n := fun n h => by rw [← h]; simp
    rcases h2 with h | h | h | h | h | h | h | h | h | h <;> (rw [e _ h]; rfl)
theorem dw_nil {p : UInt8 → Bool} {l : Bs} : l.dropWhile p = [] ↔ ∀ x ∈ l, p x = true := by
  induction l with
  | nil => simp
  | cons b r ih =>
    rw [List.dropWhile_cons]
    by_cases h : p b = true
    · rw [if_pos h, ih]; simp [h]
    · rw [if_neg h]; simp [h]
theorem trim_nil (l : Bs) : (Lib.trimS l digs = []) ↔ (l.all isD = true) := by
  have hp : (fun b => digs.contains b) = isD := funext digs_isD
  unfold Lib.trimS Lib.trimLeftS Lib.trimRightS
  rw [show (digs.contains ·) = isD from hp]
  constructor
  · intro h
    rw [dw_nil] at h
    have h2 : List.dropWhile isD l.reverse = [] := by
      cases hm : List.dropWhile isD l.reverse with
      | nil => rfl
      | cons x m =>
        have h3 := List.head_dropWhile_not isD (l := l.reverse) (by rw [hm]; simp)
        have h4 := h x (by rw [List.mem_reverse, hm]; simp)
        simp only [hm, List.head_cons] at h3
        rw [h4] at h3; cases h3
    rw [dw_nil] at h2
    exact List.all_eq_true.mpr fun x hx => h2 x (by simpa using hx)
  · intro h
    have h1 : List.dropWhile isD l.reverse = [] := dw_nil.mpr fun x hx => List.all_eq_true.mp h x (by simpa using hx)
    rw [h1]; rfl
theorem parseM (l : Bs) (h : ∀ b ∈ l, isD b = true) : ∀ acc, acc ≤ 4294967295 →
    Lib.parseUintM 4294967295 acc l = if l.foldl dstep acc ≤ 4294967295 then .ok (l.foldl dstep acc) else .range := by
  induction l with
  | nil => intro acc ha; simp [Lib.parseUintM, ha]
  | cons c r ih =>
    intro acc ha
    have hc := h c List.mem_cons_self
    simp only [isD, Bool.and_eq_true, decide_eq_true_eq] at hc
    have hr := ih (fun x hx => h x (List.mem_cons_of_mem _ hx))
    rw [List.foldl_cons]
    simp only [Lib.parseUintM]
    rw [if_pos hc, if_neg (by omega)]
    have es : acc * 10 + (c.toNat - 48) = dstep acc c := by unfold dstep; omega
    rw [es]
    by_cases hM : 4294967295 < dstep acc c
    · rw [if_pos hM, if_neg]
      have := foldl_ge r (dstep acc c)
      have hp : 1 ≤ 10 ^ r.length := Nat.one_le_pow _ _ (by omega)
      have := Nat.mul_le_mul_left (dstep acc c) hp
      omega
    · rw [if_neg hM, hr _ (by omega)]
theorem parse_all (c : UInt8) (r : Bs) (h : ∀ b ∈ c :: r, isD b = true) :
    Lib.parseIntB 32 (c :: r) = if dval (c :: r) ≤ 2147483647 then .ok ((dval (c :: r) : Nat) : Int) else .range := by
  have hc := h c List.mem_cons_self
  simp only [isD, Bool.and_eq_true, decide_eq_true_eq] at hc
  have hp := parseM (c :: r) h 0 (by omega)
  simp only [Lib.parseIntB]
  rw [if_neg (by omega)]
  unfold Lib.parseUintB
  rw [if_neg (by simp)]
  rw [show (2 ^ 32 - 1 : Nat) = 4294967295 from rfl, hp, ← dval_eq]
  generalize dval (c :: r) = v
  have h45 : ¬ (c.toNat = 45) := by omega
  by_cases h1 : v ≤ 4294967295
  · rw [if_pos h1]
    by_cases h2 : v ≤ 2147483647
    · rw [if_pos h2]; dsimp only; rw [if_neg (by rintro ⟨_, h⟩; omega), if_neg (by rintro ⟨h, _⟩; exact h45 h), if_neg h45]
    · rw [if_neg h2]; dsimp only; rw [if_pos ⟨h45, by omega⟩]
  · rw [if_neg h1, if_neg (by omega)]
theorem dval_len (c : UInt8) (r : Bs) (hc : isD c = true) (h48 : c ≠ 48) (hv : dval (c :: r) ≤ 2147483647) : (c :: r).length ≤ 10 := by
  simp only [isD, Bool.and_eq_true, decide_eq_true_eq] at hc
  have h1 : c.toNat ≠ 48 := fun h => h48 (UInt8.toNat_inj.mp (by rw [h]; rfl))
  rw [dval_eq, List.foldl_cons] at hv
  have hg := foldl_ge r (dstep 0 c)
  have hs : 1 ≤ dstep 0 c := by unfold dstep; omega
  have h2 : 10 ^ r.length ≤ 2147483647 := by
    have := Nat.mul_le_mul_right (10 ^ r.length) hs
    omega
  have h3 : r.length < 10 := by
    refine Decidable.byContradiction fun hn => ?_
    have : 10 ^ 10 ≤ 10 ^ r.length := Nat.pow_le_pow_right (by omega) (by omega)
    have : (10 : Nat) ^ 10 = 10000000000 := by decide
    omega
  simp; omega
theorem number_f (s : ByteArray) (c : UInt8) (r : Bs) (e : s.data.toList = c :: r) (hc : isD c = true) (hs : s.size ≤ 4194304) :
    lexnum s = if okNum (c :: r) then some (((dval (c :: r) : Nat) : Int), 0) else some (0, 3) := by
  have hsz : s.size = (c :: r).length := by rw [← e, size_list]
  have hb := bt_get s 0 (by rw [e]; simp)
  have hb : bt s 0 = (c.toNat : Int) := by simpa [e] using hb
  have h48 : (bt s 0 = 48) ↔ c = 48 := by
    rw [hb]; constructor
    · intro h; exact UInt8.toNat_inj.mp (by have : (48 : UInt8).toNat = 48 := rfl; omega)
    · rintro rfl; rfl
  unfold lexnum okNum
  rw [if_pos (by omega), e, hsz]
  have hh : ((c :: r).head? == some 48) = decide (c = 48) := by
    by_cases h : c = 48
    · subst h; rfl
    · simp [h]
  rw [hh]
  by_cases hall : (c :: r).all isD = true
  · have ht := (trim_nil (c :: r)).mpr hall
    by_cases h1 : 1 < (c :: r).length ∧ c = 48
    · rw [if_pos (.inr ⟨h1.1, h48.mpr h1.2⟩)]
      rw [if_neg]
      simp only [Bool.and_eq_true, decide_eq_true_eq, Bool.not_eq_true', Bool.and_eq_false_iff, decide_eq_false_iff_not]
      rintro ⟨⟨⟨_, h | h⟩, _⟩, _⟩
      · exact h h1.1
      · exact h h1.2
    · rw [if_neg (by rintro (h | ⟨h, h'⟩); exact h ht; exact h1 ⟨h, h48.mp h'⟩), parse_all c r (fun b hb => List.all_eq_true.mp hall b hb)]
      by_cases hv : dval (c :: r) ≤ 2147483647
      · have hl : (c :: r).length ≤ 10 := by
          by_cases hz : c = 48
          · have : ¬ 1 < (c :: r).length := fun h => h1 ⟨h, hz⟩
            omega
          · exact dval_len c r hc hz hv
        rw [if_pos hv, if_pos]
        simp only [Bool.and_eq_true, hall, decide_eq_true_eq, hv, hl, and_true, true_and, Bool.not_eq_true', Bool.and_eq_false_iff, decide_eq_false_iff_not]
        by_cases hz : c = 48
        · left; exact fun h => h1 ⟨h, hz⟩
        · right; exact hz
      · rw [if_neg hv, if_neg]
        simp only [Bool.and_eq_true, decide_eq_true_eq, hv, and_false, not_false_eq_true]
  · rw [if_pos (.inl fun h => hall ((trim_nil _).mp h)), if_neg]
    intro h
    simp only [Bool.and_eq_true] at h
    exact hall h.1.2

/-! ### lex.word, lex.Lex -/
theorem word_f (p : ByteArray) (b : UInt8) (r : Bs) (e : p.data.toList = b :: r) (hp : p.size ≤ 4194304) :
    match word1 (b :: r) with
    | .ok w => lex_word p = some (⟨w.kind, p.extract 0 w.len, (w.num : Int), 0⟩, 0)
    | .error c => ∃ x, c ≠ 0 ∧ lex_word p = some (x, c) := by
  have hsz : p.size = (b :: r).length := by rw [← e, size_list]
  have h0 : 0 < p.size := by rw [hsz]; simp
  have hb : bidx p 0 = some (b.toNat : Int) := by
    have := bidx_get p 0 (by rw [e]; simp)
    simpa [e] using this
  have hrun := run_f p hp
  rw [e] at hrun
  have hrl := runL_le (b :: r)
  have hxl : (p.extract 0 (runL (b :: r))).data.toList = (b :: r).take (runL (b :: r)) := by rw [ext_list, e]; simp
  have hxs : (p.extract 0 (runL (b :: r))).size = runL (b :: r) := by rw [← size_list, hxl, List.length_take]; omega
  have hcut : ∀ n : Nat, n ≤ p.size → ssub p 0 (n : Int) = some (p.extract 0 n) := fun n hn => ssub_ok (Nat.zero_le _) hn
  unfold lex_word
  simp only [hb, Option.bind_eq_bind, Option.bind_some, letter_f, digit_f]
  rw [word1_cons]
  by_cases hL : isL b = true
  · rw [if_pos hL, if_pos hL, hrun]
    simp only [Option.bind_some, hcut _ (by omega : runL (b :: r) ≤ p.size)]
    by_cases h12 : 12 < runL (b :: r)
    · rw [if_pos h12]
      refine ⟨⟨0, ByteArray.mk #[], 0, 0⟩, by decide, ?_⟩
      unfold lex_named
      rw [if_pos (by simp [hxs]; omega)]; rfl
    · rw [if_neg h12, named_f _ (by omega), hxl]; rfl
  · rw [if_neg hL, if_neg hL]
    by_cases hD : isD b = true
    · have hxe : (p.extract 0 (runL (b :: r))).data.toList = b :: r.take (runL (b :: r) - 1) := by
        rw [hxl]
        have := runL_pos (b := b) (l := r) (by simp [isA, hD])
        obtain ⟨n, hn⟩ : ∃ n, runL (b :: r) = n + 1 := ⟨runL (b :: r) - 1, by omega⟩
        rw [hn]; simp
      have hnum := number_f (p.extract 0 (runL (b :: r))) b _ hxe hD (by omega)
      rw [← hxe, hxl] at hnum
      rw [if_pos hD, if_pos hD, hrun]
      simp only [Option.bind_some, hcut _ (by omega : runL (b :: r) ≤ p.size), hnum]
      by_cases ho : okNum ((b :: r).take (runL (b :: r))) = true
      · rw [if_pos ho, if_pos ho]; rfl
      · rw [if_neg ho, if_neg ho]; exact ⟨_, by decide, rfl⟩
    · rw [if_neg hD, if_neg hD, sign_f p h0, e]
      have hsl := signL_le (b :: r)
      simp only [Option.bind_some]
      by_cases hz : signL (b :: r) = 0
      · rw [if_pos hz, if_pos (by simp [hz])]
        exact ⟨_, by decide, rfl⟩
      · rw [if_neg hz, if_neg (by simpa using hz), hcut _ (by omega)]; rfl
def tokT (t : Tok) : lex_Token := ⟨t.kind, ⟨t.text.toArray⟩, (t.num : Int), (t.at_ : Int)⟩
def finT (size : Nat) (z : List Tok × Option (Nat × Int)) : List lex_Token × Int × Int :=
  ((told size z).1.map tokT, (told size z).2.1, (told size z).2.2)
theorem finT_err (size : Nat) (acc : List Tok) (p : Nat) (e : Int) : finT size (acc, some (p, e)) = ([], (p : Int), e) := rfl
theorem lex_it (s : ByteArray) (hs : s.size ≤ 4194304) : ∀ (d i : Nat) (acc : List Tok), s.size - i = d → i ≤ s.size → acc.length ≤ i →
    (iter (lex_Lex_l1 s) ((i : Int), acc.map tokT) >>= Sum.elim (fun r => some r) (fun j1 => if (decide ((j1.length : Int) > 2000)) then (some ([], (s.size : Int), 4)) else (some (j1, 0, 0)))) = some (finT s.size (acc ++ (lexS (s.data.toList.drop i) i).1, (lexS (s.data.toList.drop i) i).2)) := by
  intro d
  induction d using Nat.strongRecOn with
  | _ d ih =>
  intro i acc hd hi ha
  by_cases hlt : i < s.size
  · have hl : i < s.data.toList.length := by rw [size_list]; omega
    have e := List.drop_eq_getElem_cons hl
    have hb := bidx_get s i hl
    generalize s.data.toList[i] = b at e hb
    have hw : IntKind.i64.wrap ((i : Int) + 1) = ((i + 1 : Nat) : Int) := by rw [w64 (by omega) (by omega)]; omega
    have hs1 : (decide ((i : Int) < (s.size : Int))) = true := by simp; omega
    have h32 : ((b.toNat : Int) == 32) = (b == 32) := by
      rw [Bool.eq_iff_iff, beq_iff_eq, beq_iff_eq]
      constructor
      · intro h; exact UInt8.toNat_inj.mp (by have : (32 : UInt8).toNat = 32 := rfl; omega)
      · rintro rfl; rfl
    have h10 : ((b.toNat : Int) == 10) = (b == 10) := by
      rw [Bool.eq_iff_iff, beq_iff_eq, beq_iff_eq]
      constructor
      · intro h; exact UInt8.toNat_inj.mp (by have : (10 : UInt8).toNat = 10 := rfl; omega)
      · rintro rfl; rfl
    have hJ : (if (b == 32) = true then some true else some (b == 10)) = some (isB b) := by
      unfold isB; cases (b == 32) <;> simp
    have hbody : lex_Lex_l1 s ((i : Int), acc.map tokT) = (if isB b then some (.inl (((i + 1 : Nat) : Int), acc.map tokT)) else
        (ssub s (i : Int) (s.size : Int) >>= fun v3 => lex_word v3 >>= fun v4 => if (v4.2 != 0) then (some (.inr (.inl ([], (i : Int), v4.2))))
          else (app 40 (acc.map tokT) [(lex_Token.mk v4.1.Kind v4.1.Text v4.1.Num (i : Int))] >>= fun v5 => some (.inl ((IntKind.i64.wrap ((i : Int) + (v4.1.Text.size : Int))), v5))))) := by
      unfold lex_Lex_l1
      rw [if_pos hs1]
      simp only [hb, Option.bind_eq_bind, Option.bind_some, h32, h10, hw, hJ]
    rw [e]
    by_cases hB : isB b = true
    · rw [lexS_blank _ _ hB, iter_in (y := (((i + 1 : Nat) : Int), acc.map tokT)) (by rw [hbody, if_pos hB])]
      exact ih (s.size - (i + 1)) (by omega) (i + 1) acc rfl (by omega) (by omega)
    · have hB' : isB b = false := by simpa using hB
      rw [if_neg hB, ssub_ok (by omega) (Nat.le_refl _)] at hbody
      simp only [Option.bind_eq_bind, Option.bind_some] at hbody
      have hpl : (s.extract i s.size).data.toList = b :: s.data.toList.drop (i + 1) := by rw [ext_drop, e]
      have hps : (s.extract i s.size).size ≤ 4194304 := by rw [ByteArray.size_extract]; omega
      have hwd := word_f (s.extract i s.size) b _ hpl hps
      cases hw1 : word1 (b :: s.data.toList.drop (i + 1)) with
      | error c =>
        rw [hw1] at hwd
        obtain ⟨x, hc, hE⟩ := hwd
        rw [hE] at hbody
        simp only [Option.bind_some] at hbody
        rw [if_pos (by simpa using hc)] at hbody
        rw [iter_out hbody, lexS_error hB' hw1, finT_err]
        rfl
      | ok w =>
        rw [hw1] at hwd
        have hlen := word1_len hw1
        have hlen2 : w.len ≤ s.size - i := by
          have := hlen.2
          rw [← hpl, ext_drop, List.length_drop, size_list] at this
          exact this
        have hx : (s.extract i s.size).extract 0 w.len = (⟨((b :: s.data.toList.drop (i + 1)).take w.len).toArray⟩ : ByteArray) := by
          refine list_ext ?_
          rw [ext_list, hpl]; simp
        have hxs : ((⟨((b :: s.data.toList.drop (i + 1)).take w.len).toArray⟩ : ByteArray)).size = w.len := by
          rw [← size_list]; simp only [List.length_take]
          omega
        have hd2 : (b :: s.data.toList.drop (i + 1)).drop w.len = s.data.toList.drop (i + w.len) := by
          rw [← e, List.drop_drop]
        rw [hwd] at hbody
        simp only [Option.bind_some] at hbody
        rw [if_neg (by simp), app_ok (by simp; omega)] at hbody
        simp only [Option.bind_some] at hbody
        rw [hx, hxs, w64 (by omega) (by omega)] at hbody
        have IH := ih (s.size - (i + w.len)) (by omega) (i + w.len) (acc ++ [(⟨w.kind, (b :: s.data.toList.drop (i + 1)).take w.len, w.num, i⟩ : Tok)]) rfl (by omega) (by simp; omega)
        rw [iter_in hbody, lexS_ok hB' hw1, hd2]
        simp only [List.map_append, List.map_cons, List.map_nil, List.append_assoc, List.cons_append, List.nil_append] at IH
        rw [← show (((i + w.len : Nat) : Int)) = (i : Int) + (w.len : Int) by push_cast; rfl]
        exact IH
  · have hie : i = s.size := by omega
    have hnil : s.data.toList.drop i = [] := List.drop_of_length_le (by rw [size_list]; omega)
    rw [hnil, lexS_nil]
    rw [iter_out (r := .inr (acc.map tokT)) (by unfold lex_Lex_l1; rw [if_neg (by simp; omega)])]
    simp only [List.append_nil, finT, told, List.length_map, Option.bind_eq_bind, Option.bind_some, Sum.elim_inr]
    by_cases h2 : 2000 < acc.length
    · rw [if_pos (by simp; omega), if_pos h2]; rfl
    · rw [if_neg (by simp; omega), if_neg h2]
theorem lex_f (s : ByteArray) (hs : s.size ≤ 4194304) : lex_Lex s = some (finT s.size (lexS s.data.toList 0)) := by
  have := lex_it s hs s.size 0 [] (by omega) (by omega) (by simp)
  unfold lex_Lex
  simpa using this
end Go.Proofs.YtokjbpmjdcbogaaGreatDoor.Abs
/- What the writer puts, in plain words: words, whether something can't be, whether it is too deep. -/
namespace Go.Proofs.YtokjbpmjdcbogaaGreatDoor.Abs.Wri
open Go Go.RowKit
set_option linter.unusedVariables false
set_option linter.unusedSimpArgs false
/-! ### With as much fuel as is enough -/
def Sn {α : Type} (n h : Nat) (x : Option α) (r : α) : Prop := x = some r ∨ (x = none ∧ n < h)
theorem Sn.pure {α : Type} {n h : Nat} {x : Option α} {r : α} (e : x = some r) : Sn n h x r := .inl e
theorem Sn.mono {α : Type} {n h h' : Nat} {x : Option α} {r : α} (s : Sn n h x r) (hh : h ≤ h') : Sn n h' x r := s.imp id fun ⟨a, b⟩ => ⟨a, by omega⟩
theorem Sn.bind {α β : Type} {n h : Nat} {x : Option α} {f : α → Option β} {r : α} {t : β} (s : Sn n h x r) (k : Sn n h (f r) t) : Sn n h (x >>= f) t := by
  rcases s with rfl | ⟨rfl, hn⟩
  · exact k
  · exact .inr ⟨rfl, hn⟩
theorem Sn.up {α : Type} {n h : Nat} {x : Option α} {r : α} (s : Sn n h x r) : Sn (n + 1) (h + 1) x r := s.imp id fun ⟨a, b⟩ => ⟨a, by omega⟩
theorem Sn.unf {α : Type} {f : Nat → Option α} {r : α} {h : Nat} (s : ∀ n, Sn n h (f n) r) : unf f = some r := by
  refine unf_of h ?_ fun m t hm => ?_
  · rcases s h with e | ⟨_, e⟩
    · exact e
    · omega
  · rcases s m with e | ⟨e, _⟩
    · rw [hm] at e; exact Option.some.inj e
    · rw [hm] at e; cases e
/-! ### What is put -/
structure Wr where
  ws : List ByteArray
  bad : Bool
  dp : Bool
def Wr.app (x y : Wr) : Wr := ⟨x.ws ++ y.ws, x.bad || y.bad, x.dp || y.dp⟩
instance : Append Wr := ⟨Wr.app⟩
@[simp] theorem Wr.ws_app (x y : Wr) : (x ++ y).ws = x.ws ++ y.ws := rfl
@[simp] theorem Wr.bad_app (x y : Wr) : (x ++ y).bad = (x.bad || y.bad) := rfl
@[simp] theorem Wr.dp_app (x y : Wr) : (x ++ y).dp = (x.dp || y.dp) := rfl
def Wr.nil : Wr := ⟨[], false, false⟩
/-- Words. -/
def wW (l : List ByteArray) : Wr := ⟨l, false, false⟩
/-- What must be. -/
def wM (ok : Bool) : Wr := ⟨[], !ok, false⟩
/-- A depth. -/
def wD (q : Int) : Wr := ⟨[], false, decide (q > 24)⟩
/-- Is it one name? -/
def nameOk (s : ByteArray) : Bool :=
  let v := finT s.size (lexS s.data.toList 0)
  v.2.2 == 0 && (v.1.length : Int) == 1 && (match v.1 with | t :: _ => t.Kind == 1 && t.Text.toList == s.toList | [] => false)
def numOk (n : Int) : Bool := decide (n ≥ 0) && decide (n ≤ 2147483647)
def wN (s : ByteArray) : Wr := ⟨[s], !nameOk s, false⟩
def wI (n : Int) : Wr := ⟨[itoaB n], !numOk n, false⟩
/-! ### Expressions -/
mutual
def szE : ast_Expr → Nat
  | ⟨_, _, _, l⟩ => 1 + szEs l
def szEs : List ast_Expr → Nat
  | [] => 0
  | e :: r => szE e + szEs r
end
def sumK (k : Int) : Bool := k == 4 || k == 5
def pairK (k : Int) : Bool := decide (k ≥ 4) && decide (k ≤ 8)
def signW (k : Int) : ByteArray := match k with
  | 4 => ByteArray.mk #[43] | 5 => ByteArray.mk #[45] | 6 => ByteArray.mk #[42] | 7 => ByteArray.mk #[47] | _ => ByteArray.mk #[37]
def wLeaf (e : ast_Expr) : Wr := wM ((e.Kids.length : Int) == 0) ++ (if e.Kind == 1 then wI e.Num else wM (e.Kind == 2) ++ wN e.Name)
/-- A kid, in ( and ), if it must. -/
def inP (must : Bool) (f : Int → Wr) (p : Int) : Wr := if must then wW [(ByteArray.mk #[40])] ++ (wD (p + 1) ++ (f (p + 1) ++ wW [(ByteArray.mk #[41])])) else f p
def sE (e : ast_Expr) (p : Int) : Wr :=
  match e with
  | ⟨k, n, s, [x]⟩ => if k == 3 then wW [(ByteArray.mk #[45])] ++ (wD (p + 1) ++ inP (pairK x.Kind) (sE x) (p + 1)) else wLeaf ⟨k, n, s, [x]⟩
  | ⟨k, n, s, [l, r]⟩ => if pairK k then inP (!sumK k && sumK l.Kind) (sE l) p ++ (wW [signW k] ++ inP (sumK r.Kind || (!sumK k && pairK r.Kind)) (sE r) p) else wLeaf ⟨k, n, s, [l, r]⟩
  | ⟨k, n, s, l⟩ => wLeaf ⟨k, n, s, l⟩
theorem inP_len (m : Bool) (f : Int → Wr) (p : Int) (c : Nat) (h : ∀ q, (f q).ws.length ≤ c) : (inP m f p).ws.length ≤ c + 2 := by
  unfold inP
  split
  · have := h (p + 1); simp [wW, wD]; omega
  · have := h p; omega
theorem wLeaf_len (e : ast_Expr) : (wLeaf e).ws.length ≤ 1 := by
  unfold wLeaf
  split <;> simp [wM, wI, wN]
theorem sE_len : ∀ (e : ast_Expr) (p : Int), (sE e p).ws.length ≤ 5 * szE e
  | ⟨k, n, s, []⟩, p => by
    have := wLeaf_len ⟨k, n, s, []⟩
    simp only [sE, szE, szEs]; omega
  | ⟨k, n, s, [x]⟩, p => by
    have := wLeaf_len ⟨k, n, s, [x]⟩
    simp only [sE, szE, szEs]
    split
    · have := inP_len (pairK x.Kind) (sE x) (p + 1) (5 * szE x) (sE_len x)
      simp [wW, wD]; omega
    · omega
  | ⟨k, n, s, [l, r]⟩, p => by
    have := wLeaf_len ⟨k, n, s, [l, r]⟩
    simp only [sE, szE, szEs]
    split
    · have := inP_len (!sumK k && sumK l.Kind) (sE l) p (5 * szE l) (sE_len l)
      have := inP_len (sumK r.Kind || (!sumK k && pairK r.Kind)) (sE r) p (5 * szE r) (sE_len r)
      simp [wW]; omega
    · omega
  | ⟨k, n, s, a :: b :: c :: l⟩, p => by
    have := wLeaf_len ⟨k, n, s, a :: b :: c :: l⟩
    simp only [sE, szE, szEs]; omega
end Go.Proofs.YtokjbpmjdcbogaaGreatDoor.Abs.Wri
/- The writer's expressions and comparisons are what WrA says. -/
namespace Go.Proofs.YtokjbpmjdcbogaaGreatDoor.Abs.Wri
open Go Go.RowKit
set_option linter.unusedVariables false
set_option linter.unusedSimpArgs false
end Go.Proofs.YtokjbpmjdcbogaaGreatDoor.Abs.Wri
/- The writer's comparisons, blocks and statements are what WrA says. -/
namespace Go.Proofs.YtokjbpmjdcbogaaGreatDoor.Abs.Wri
open Go Go.RowKit
set_option linter.unusedVariables false
set_option linter.unusedSimpArgs false
def szC (c : ast_Cond) : Nat := 1 + szE c.L + szE c.R
def opOk (k : Int) : Bool := decide (k ≥ 1) && decide (k ≤ 6)
def opW (k : Int) : ByteArray := match k with
  | 1 => ByteArray.mk #[61, 61] | 2 => ByteArray.mk #[33, 61] | 3 => ByteArray.mk #[60] | 4 => ByteArray.mk #[60, 61] | 5 => ByteArray.mk #[62] | _ => ByteArray.mk #[62, 61]
def sC (c : ast_Cond) (p : Int) : Wr := wW [(ByteArray.mk #[40])] ++ (sE c.L p ++ ((if opOk c.Op then wW [opW c.Op] else wM false) ++ (sE c.R p ++ wW [(ByteArray.mk #[41])])))
theorem sC_len (c : ast_Cond) (p : Int) : (sC c p).ws.length ≤ 5 * szC c := by
  have h1 := sE_len c.L p
  have h2 := sE_len c.R p
  unfold sC szC
  split <;> simp [wW, wM] <;> omega
/-! ### Statements -/
mutual
def szS : ast_Stmt → Nat
  | .mk _ _ _ e c b l a => 4 + szE e + szC c + szL b + szL l + szA a
def szL : List ast_Stmt → Nat
  | [] => 1
  | s :: r => szS s + szL r
def szA : List ast_Arm → Nat
  | [] => 1
  | .mk _ _ b :: r => 2 + szL b + szA r
end
/-- A block's words, of its statements'. -/
def inB (f : Int → Wr) (b : Int) : Wr := wW [(ByteArray.mk #[123])] ++ (wD (b + 1) ++ (f (b + 1) ++ wW [(ByteArray.mk #[125])]))
mutual
def sS : ast_Stmt → Int → Int → Wr
  | .mk k n t e c bo el ar, b, p =>
    if k == 1 then wN n ++ (wW [(ByteArray.mk #[61])] ++ (sE e p ++ wW [(ByteArray.mk #[59])]))
    else if k == 2 then wW [(ByteArray.mk #[105, 102])] ++ (sC c p ++ (inB (fun q => sL bo q p) b ++ (if el.isEmpty then Wr.nil else wW [(ByteArray.mk #[101, 108, 115, 101])] ++ inB (fun q => sL el q p) b)))
    else if k == 3 then wW [(ByteArray.mk #[119, 104, 105, 108, 101])] ++ (sC c p ++ inB (fun q => sL bo q p) b)
    else if k == 4 then wW [(ByteArray.mk #[115, 101, 110, 100])] ++ (wN n ++ (wW [(ByteArray.mk #[46])] ++ (wN t ++ (wW [(ByteArray.mk #[40])] ++ (sE e p ++ wW [(ByteArray.mk #[41]), (ByteArray.mk #[59])])))))
    else if k == 5 then wW [(ByteArray.mk #[114, 101, 99, 118])] ++ (wN n ++ (wM (!ar.isEmpty) ++ (wW [(ByteArray.mk #[123])] ++ (sA ar b p ++ wW [(ByteArray.mk #[125])]))))
    else if k == 6 then wW [(ByteArray.mk #[97, 115, 115, 101, 114, 116])] ++ (sC c p ++ wW [(ByteArray.mk #[59])])
    else if k == 7 then wW [(ByteArray.mk #[105, 110, 112, 117, 116])] ++ (wN n ++ wW [(ByteArray.mk #[59])])
    else wM false
def sL : List ast_Stmt → Int → Int → Wr
  | [], _, _ => Wr.nil
  | s :: r, b, p => sS s b p ++ sL r b p
def sA : List ast_Arm → Int → Int → Wr
  | [], _, _ => Wr.nil
  | .mk t v bo :: r, b, p => wN t ++ (wW [(ByteArray.mk #[40])] ++ (wN v ++ (wW [(ByteArray.mk #[41])] ++ (inB (fun q => sL bo q p) b ++ sA r b p))))
end
theorem inB_len (f : Int → Wr) (b : Int) (c : Nat) (h : ∀ q, (f q).ws.length ≤ c) : (inB f b).ws.length ≤ c + 2 := by
  have := h (b + 1)
  unfold inB; simp [wW, wD]; omega
mutual
theorem sS_len : ∀ (s : ast_Stmt) (b p : Int), (sS s b p).ws.length ≤ 5 * szS s
  | .mk k n t e c bo el ar, b, p => by
    have h1 := sE_len e p
    have h2 := sC_len c p
    have h3 := inB_len (fun q => sL bo q p) b _ fun q => sL_len bo q p
    have h4 := inB_len (fun q => sL el q p) b _ fun q => sL_len el q p
    have h5 := sA_len ar b p
    have h6 := szL_pos bo
    have h7 := szL_pos el
    have h8 := szA_pos ar
    simp only [sS, szS]
    split
    · simp [wN, wW]; omega
    · split
      · split <;> simp [wN, wW, Wr.nil] <;> omega
      · split
        · simp [wN, wW]; omega
        · split
          · simp [wN, wW]; omega
          · split
            · simp [wN, wW, wM]; omega
            · split
              · simp [wW]; omega
              · split
                · simp [wN, wW]; omega
                · simp [wM]
theorem sL_len : ∀ (l : List ast_Stmt) (b p : Int), (sL l b p).ws.length ≤ 5 * szL l
  | [], b, p => by simp [sL, Wr.nil]
  | s :: r, b, p => by
    have := sS_len s b p
    have := sL_len r b p
    simp only [sL, szL, Wr.ws_app, List.length_append]; omega
theorem sA_len : ∀ (l : List ast_Arm) (b p : Int), (sA l b p).ws.length ≤ 5 * szA l
  | [], b, p => by simp [sA, Wr.nil]
  | .mk t v bo :: r, b, p => by
    have := inB_len (fun q => sL bo q p) b _ fun q => sL_len bo q p
    have := sA_len r b p
    simp only [sA, szA]; simp [wN, wW]; omega
theorem szL_pos : ∀ l : List ast_Stmt, 1 ≤ szL l
  | [] => by simp [szL]
  | s :: r => by have := szL_pos r; simp only [szL]; omega
theorem szA_pos : ∀ l : List ast_Arm, 1 ≤ szA l
  | [] => by simp [szA]
  | .mk t v bo :: r => by simp only [szA]; omega
end
end Go.Proofs.YtokjbpmjdcbogaaGreatDoor.Abs.Wri
/- The writer's statements are what WrC says. -/
namespace Go.Proofs.YtokjbpmjdcbogaaGreatDoor.Abs.Wri
open Go Go.RowKit
set_option linter.unusedVariables false
set_option linter.unusedSimpArgs false
theorem len_szL : ∀ l : List ast_Stmt, l.length ≤ szL l
  | [] => by simp
  | s :: r => by
    have := len_szL r
    have : 4 ≤ szS s := by cases s; simp only [szS]; omega
    simp only [szL, List.length_cons]; omega
theorem len_szA : ∀ l : List ast_Arm, l.length ≤ szA l
  | [] => by simp
  | .mk t v b :: r => by
    have := len_szA r
    simp only [szA, List.length_cons]; omega
/-! ### Blocks -/
/-! ### Arms -/
end Go.Proofs.YtokjbpmjdcbogaaGreatDoor.Abs.Wri
/- The writer's statements, at last. -/
namespace Go.Proofs.YtokjbpmjdcbogaaGreatDoor.Abs.Wri
open Go Go.RowKit
set_option linter.unusedVariables false
set_option linter.unusedSimpArgs false
end Go.Proofs.YtokjbpmjdcbogaaGreatDoor.Abs.Wri
/- ast.Words, told in plain words. -/
namespace Go.Proofs.YtokjbpmjdcbogaaGreatDoor.Abs.Wri
open Go Go.RowKit
set_option linter.unusedVariables false
set_option linter.unusedSimpArgs false
def flatW {β : Type} (g : Nat → β → Wr) : Nat → List β → Wr
  | _, [] => Wr.nil
  | i, x :: r => g i x ++ flatW g (i + 1) r
def sumN {β : Type} (c : β → Nat) : List β → Nat
  | [] => 0
  | x :: r => c x + sumN c r
abbrev TP := Bool × Bool × Int × Int × List ByteArray
/-! ### Processes -/
def wVar (_ : Nat) (v : ByteArray) : Wr := wW [(ByteArray.mk #[118, 97, 114])] ++ (wN v ++ wW [(ByteArray.mk #[59])])
def sP (p : ast_Proc) : Wr := wW [(ByteArray.mk #[112, 114, 111, 99])] ++ (wN p.Name ++ (wW [(ByteArray.mk #[123])] ++ (flatW wVar 0 p.Vars ++ (sL p.Body 0 0 ++ wW [(ByteArray.mk #[125])]))))
def szP (p : ast_Proc) : Nat := 1 + p.Vars.length + szL p.Body
/-! ### Rules -/
def wMove (_ : Nat) (m : ast_Move) : Wr := wI m.From ++ (wN m.Tag ++ (wI m.To ++ wW [(ByteArray.mk #[59])]))
def sR (r : ast_Rule) : Wr := wW [(ByteArray.mk #[114, 117, 108, 101])] ++ (wN r.Chan ++ (wW [(ByteArray.mk #[123])] ++ (flatW wMove 0 r.Moves ++ wW [(ByteArray.mk #[125])])))
def szR (r : ast_Rule) : Nat := 1 + r.Moves.length
/-! ### Channels -/
def kindOk (k : Int) : Bool := decide (k ≥ 0) && decide (k < 3)
def kindW (k : Int) : ByteArray := match k with
  | 0 => ByteArray.mk #[98, 108, 111, 99, 107] | 1 => ByteArray.mk #[100, 114, 111, 112] | _ => ByteArray.mk #[108, 111, 115, 115, 121]
def wTag (i : Nat) (t : ByteArray) : Wr := if i = 0 then wN t else wW [(ByteArray.mk #[44])] ++ wN t
def sCh (c : ast_Chan) : Wr := wW [(ByteArray.mk #[99, 104, 97, 110])] ++ (wN c.Name ++ ((if kindOk c.Kind then wW [kindW c.Kind] else wM false) ++ (wI c.Size ++ (wW [(ByteArray.mk #[102, 114, 111, 109])] ++ (wN c.From ++ (wW [(ByteArray.mk #[116, 111])] ++ (wN c.To ++ (wW [(ByteArray.mk #[123])] ++ (wM (!c.Tags.isEmpty) ++ (flatW wTag 0 c.Tags ++ wW [(ByteArray.mk #[125]), (ByteArray.mk #[59])]))))))))))
def szCh (c : ast_Chan) : Nat := 3 + c.Tags.length
end Go.Proofs.YtokjbpmjdcbogaaGreatDoor.Abs.Wri
/- ast.Words, told in plain words: channels, and all. -/
namespace Go.Proofs.YtokjbpmjdcbogaaGreatDoor.Abs.Wri
open Go Go.RowKit
set_option linter.unusedVariables false
set_option linter.unusedSimpArgs false
/-! ### All -/
def sSys (s : ast_System) : Wr := flatW (fun _ => sCh) 0 s.Chans ++ (flatW (fun _ => sR) 0 s.Rules ++ flatW (fun _ => sP) 0 s.Procs)
def szSys (s : ast_System) : Nat := sumN szCh s.Chans + sumN szR s.Rules + sumN szP s.Procs
theorem sumN_mem {β : Type} {c : β → Nat} : ∀ {l : List β} {x : β}, x ∈ l → c x ≤ sumN c l
  | y :: r, x, h => by
    rcases List.mem_cons.1 h with rfl | h
    · simp only [sumN]; omega
    · have := sumN_mem (c := c) h; simp only [sumN]; omega
theorem sumN_len {β : Type} {c : β → Nat} (h : ∀ x, 1 ≤ c x) : ∀ (l : List β), l.length ≤ sumN c l
  | [] => by simp
  | x :: r => by have := sumN_len h r; have := h x; simp only [sumN, List.length_cons]; omega
end Go.Proofs.YtokjbpmjdcbogaaGreatDoor.Abs.Wri
/- No word is long. -/
namespace Go.Proofs.YtokjbpmjdcbogaaGreatDoor.Abs.Wri
open Go Go.RowKit
set_option linter.unusedVariables false
set_option linter.unusedSimpArgs false
def Sm (x : Wr) : Prop := ∀ w ∈ x.ws, w.size ≤ 4194304
theorem Sm.app {x y : Wr} (h : Sm x) (k : Sm y) : Sm (x ++ y) := fun w hw => by
  rcases List.mem_append.1 hw with hw | hw
  · exact h w hw
  · exact k w hw
end Go.Proofs.YtokjbpmjdcbogaaGreatDoor.Abs.Wri
/- The statements' own systems, turned to the program's. -/
namespace Go.Proofs.YtokjbpmjdcbogaaGreatDoor.Abs.Wri
open Go Go.RowKit
set_option linter.unusedVariables false
set_option linter.unusedSimpArgs false
theorem maploop {β γ O : Type} {body : Int × List γ → Option (Sum (Int × List γ) (Sum O (List γ)))} {n H : Nat} (f : β → γ) (a1 : List β) (hlen : a1.length ≤ 400000000000)
    (hs : ∀ (i : Nat) x acc, i < a1.length → idx a1 (i : Int) = some x → x ∈ a1 → acc.length = i → IntKind.i64.wrap ((i : Int) + 1) = ((i + 1 : Nat) : Int) → Sn n H (body ((i : Int), acc)) (.inl (((i + 1 : Nat) : Int), acc ++ [f x])))
    (he : ∀ acc, body ((a1.length : Int), acc) = some (.inr (.inr acc))) :
    ∀ (l : List β) (i : Nat) (acc : List γ), a1.drop i = l → i ≤ a1.length → acc.length = i → Sn n H (iter body ((i : Int), acc)) (.inr (acc ++ l.map f)) := by
  intro l
  induction l with
  | nil =>
    intro i acc hd hi ha
    have : i = a1.length := by have := List.drop_eq_nil_iff.1 hd; omega
    subst this
    exact .inl (by rw [iter_out (he acc)]; simp)
  | cons s r ih =>
    intro i acc hd hi ha
    have hlt : i < a1.length := by
      refine Nat.lt_of_not_le fun h => ?_
      rw [List.drop_of_length_le h] at hd; cases hd
    rw [List.drop_eq_getElem_cons hlt] at hd
    injection hd with h1 h2
    have hi2 : idx a1 (i : Int) = some s := by rw [idx_ok hlt, h1]
    have hw : IntKind.i64.wrap ((i : Int) + 1) = ((i + 1 : Nat) : Int) := by rw [w64 (by omega) (by omega)]; omega
    have hm : s ∈ a1 := by rw [← h1]; exact List.getElem_mem hlt
    have h3 := hs i s acc hlt hi2 hm ha hw
    have h4 := ih (i + 1) (acc ++ [f s]) h2 hlt (by simp; omega)
    rw [iter_eq]
    refine Sn.bind h3 ?_
    simpa using h4
theorem maploop0 {β γ O : Type} {body : Int × List γ → Option (Sum (Int × List γ) (Sum O (List γ)))} {n H : Nat} (f : β → γ) (a1 : List β) (hlen : a1.length ≤ 400000000000)
    (hs : ∀ (i : Nat) x acc, i < a1.length → idx a1 (i : Int) = some x → x ∈ a1 → acc.length = i → IntKind.i64.wrap ((i : Int) + 1) = ((i + 1 : Nat) : Int) → Sn n H (body ((i : Int), acc)) (.inl (((i + 1 : Nat) : Int), acc ++ [f x])))
    (he : ∀ acc, body ((a1.length : Int), acc) = some (.inr (.inr acc))) : Sn n H (iter body (0, [])) (.inr (a1.map f)) := by
  have := maploop f a1 hlen hs he a1 0 [] rfl (by omega) rfl
  simpa using this
theorem maploop_f {β γ O : Type} {body : Int × List γ → Option (Sum (Int × List γ) (Sum O (List γ)))} (f : β → γ) (a1 : List β) (hlen : a1.length ≤ 400000000000)
    (hs : ∀ (i : Nat) x acc, i < a1.length → idx a1 (i : Int) = some x → x ∈ a1 → acc.length = i → IntKind.i64.wrap ((i : Int) + 1) = ((i + 1 : Nat) : Int) → body ((i : Int), acc) = some (.inl (((i + 1 : Nat) : Int), acc ++ [f x])))
    (he : ∀ acc, body ((a1.length : Int), acc) = some (.inr (.inr acc))) : iter body (0, []) = some (.inr (a1.map f)) := by
  rcases maploop0 (n := 0) (H := 0) f a1 hlen (fun i x acc h1 h2 h3 h4 h5 => .inl (hs i x acc h1 h2 h3 h4 h5)) he with h | ⟨_, h⟩
  · exact h
  · omega
/-! ### Expressions -/
mutual
def cE : r02_Expr → ast_Expr
  | ⟨k, n, s, l⟩ => ⟨k, n, s, cEs l⟩
def cEs : List r02_Expr → List ast_Expr
  | [] => []
  | e :: r => cE e :: cEs r
end
theorem cEs_map : ∀ l, cEs l = l.map cE
  | [] => rfl
  | e :: r => by simp only [cEs, List.map_cons, cEs_map r]
theorem szE_pos (e : ast_Expr) : 1 ≤ szE e := by cases e; simp only [szE]; omega
theorem szEs_mem : ∀ {l : List r02_Expr} {x : r02_Expr}, x ∈ l → szE (cE x) ≤ szEs (cEs l)
  | y :: r, x, h => by
    rcases List.mem_cons.1 h with rfl | h
    · simp only [cEs, szEs]; omega
    · have := szEs_mem h; simp only [cEs, szEs]; omega
theorem szEs_len : ∀ l : List r02_Expr, l.length ≤ szEs (cEs l)
  | [] => by simp
  | e :: r => by have := szEs_len r; have := szE_pos (cE e); simp only [cEs, szEs, List.length_cons]; omega
theorem cvE : ∀ (N : Nat) (e : r02_Expr), szE (cE e) ≤ N → N ≤ 400000000000 → ∀ n, Sn n (szE (cE e)) (l02_ExprN n e) (cE e) := by
  intro N
  induction N with
  | zero => intro e he; have := szE_pos (cE e); omega
  | succ N ih =>
    intro e he hN n
    obtain ⟨k, m, s, l⟩ := e
    simp only [cE, szE] at he ⊢
    cases n with
    | zero => exact .inr ⟨rfl, by omega⟩
    | succ n =>
      have hl := szEs_len l
      have h := maploop0 (n := n) (H := szEs (cEs l)) (body := l02_Expr_l1 (l02_ExprN n) ⟨k, m, s, l⟩) cE l (by omega)
        (fun i x acc hi hx hm ha hw => by
          unfold l02_Expr_l1
          rw [if_pos (by simpa using hi)]
          simp only [hx, Option.bind_eq_bind, Option.bind_some, hw]
          have hz := szEs_mem hm
          refine Sn.bind (f := _) ((ih x (by omega) (by omega) n).mono hz) (.inl ?_)
          rw [app_ok (by simp; omega)]
          rfl)
        (fun acc => by unfold l02_Expr_l1; rw [if_neg (by simp)])
      have t2 := (Sn.bind (f := Sum.elim (fun _ => none) (fun j1 => some (ast_Expr.mk k m s j1))) h (.inl (by rw [← cEs_map]; rfl : _ = some (ast_Expr.mk k m s (cEs l))))).up
      exact t2.mono (by omega)
theorem expr_cv {e : r02_Expr} (h : szE (cE e) ≤ 400000000000) : l02_Expr e = some (cE e) := Sn.unf fun n => cvE _ e (Nat.le_refl _) h n
def cC (c : r02_Cond) : ast_Cond := ⟨c.Op, cE c.L, cE c.R⟩
theorem cond_cv {c : r02_Cond} (h : szC (cC c) ≤ 400000000000) : l02_Cond c = some (cC c) := by
  unfold szC cC at h
  simp only at h
  unfold l02_Cond
  rw [expr_cv (e := c.L) (by omega), expr_cv (e := c.R) (by omega)]
  rfl
/-! ### Statements -/
mutual
def cS : r02_Stmt → ast_Stmt
  | .mk k n t e c b l a => .mk k n t (cE e) (cC c) (cL b) (cL l) (cA a)
def cL : List r02_Stmt → List ast_Stmt
  | [] => []
  | s :: r => cS s :: cL r
def cA : List r02_Arm → List ast_Arm
  | [] => []
  | .mk t v b :: r => .mk t v (cL b) :: cA r
end
def cArm (x : r02_Arm) : ast_Arm := .mk x.Tag x.Var (cL x.Body)
theorem cL_map : ∀ l, cL l = l.map cS
  | [] => rfl
  | e :: r => by simp only [cL, List.map_cons, cL_map r]
theorem cA_map : ∀ l, cA l = l.map cArm
  | [] => rfl
  | .mk t v b :: r => by simp only [cA, List.map_cons, cA_map r]; rfl
theorem cL_mem : ∀ {l : List r02_Stmt} {x : r02_Stmt}, x ∈ l → szS (cS x) + 1 ≤ szL (cL l)
  | y :: r, x, h => by
    have := szL_pos (cL r)
    rcases List.mem_cons.1 h with rfl | h
    · simp only [cL, szL]; omega
    · have := cL_mem h; simp only [cL, szL]; omega
theorem cA_mem : ∀ {l : List r02_Arm} {x : r02_Arm}, x ∈ l → szL (cL x.Body) ≤ szA (cA l)
  | .mk t v b :: r, x, h => by
    rcases List.mem_cons.1 h with rfl | h
    · simp only [cA, szA]; show szL (cL b) ≤ _; omega
    · have := cA_mem h; simp only [cA, szA]; omega
theorem cL_len : ∀ l : List r02_Stmt, l.length ≤ szL (cL l) := fun l => by
  have := len_szL (cL l)
  rw [cL_map, List.length_map] at this
  rw [cL_map]; exact this
theorem cA_len : ∀ l : List r02_Arm, l.length ≤ szA (cA l) := fun l => by
  have := len_szA (cA l)
  rw [cA_map, List.length_map] at this
  rw [cA_map]; exact this
theorem cvL : ∀ (N : Nat) (l : List r02_Stmt), szL (cL l) ≤ N → N ≤ 400000000000 → ∀ n, Sn n (szL (cL l)) (l02_StmtsN n l) (cL l) := by
  intro N
  induction N with
  | zero => intro l hl; have := szL_pos (cL l); omega
  | succ N ih =>
    intro l hl hN n
    cases n with
    | zero => exact .inr ⟨rfl, szL_pos _⟩
    | succ n =>
      have hll := cL_len l
      have hp := szL_pos (cL l)
      have h := maploop0 (n := n) (H := szL (cL l) - 1) (body := l02_Stmts_l1 (l02_StmtsN n) l) cS l (by omega)
        (fun i x acc hi hx hm ha hw => by
          obtain ⟨k, nm, tg, e, c, bo, el, ar⟩ := x
          have hz := cL_mem hm
          simp only [cS, szS] at hz
          have p1 := szL_pos (cL bo)
          have p2 := szL_pos (cL el)
          have p3 := szA_pos (cA ar)
          unfold l02_Stmts_l1
          rw [if_pos (by simpa using hi)]
          simp only [hx, Option.bind_eq_bind, Option.bind_some, hw]
          dsimp only [r02_Stmt.Kind, r02_Stmt.Name, r02_Stmt.Tag, r02_Stmt.E, r02_Stmt.C, r02_Stmt.Body, r02_Stmt.Else, r02_Stmt.Arms]
          rw [expr_cv (e := e) (by omega), cond_cv (c := c) (by omega)]
          simp only [Option.bind_some]
          have har := maploop0 (n := n) (H := szL (cL l) - 1) (body := l02_Stmts_l2 (l02_StmtsN n) (.mk k nm tg e c bo el ar)) cArm ar (by have := cA_len ar; omega)
            (fun i x acc hi hx hm ha hw => by
              unfold l02_Stmts_l2
              rw [if_pos (by show decide ((i : Int) < (ar.length : Int)) = true; simpa using hi)]
              dsimp only [r02_Stmt.Arms]
              simp only [hx, Option.bind_eq_bind, Option.bind_some, hw]
              have hz := cA_mem hm
              refine Sn.bind (f := _) ((ih x.Body (by omega) (by omega) n).mono (by omega)) (.inl ?_)
              have := cA_len ar
              rw [app_ok (by simp; omega)]
              rfl)
            (fun acc => by unfold l02_Stmts_l2; rw [if_neg (by simp [r02_Stmt.Arms])])
          have kb := (ih bo (by omega) (by omega) n).mono (by omega : _ ≤ szL (cL l) - 1)
          have ke := (ih el (by omega) (by omega) n).mono (by omega : _ ≤ szL (cL l) - 1)
          have fin : ∀ v9, Sn n (szL (cL l) - 1) ((app 288 acc [v9]).bind fun v9 => some (Sum.inl (((i + 1 : Nat) : Int), v9)) : Option (Sum (Int × List ast_Stmt) (Sum (List ast_Stmt) (List ast_Stmt)))) (.inl (((i + 1 : Nat) : Int), acc ++ [v9])) := fun v9 => .inl (by rw [app_ok (by simp; omega)]; rfl)
          refine Sn.bind (f := _) kb (Sn.bind (f := _) ke (Sn.bind (f := _) har ?_))
          have := fin (.mk k nm tg (cE e) (cC c) (cL bo) (cL el) (ar.map cArm))
          rw [← cA_map] at this
          simp only [cS]
          rw [← cA_map]
          exact this)
        (fun acc => by unfold l02_Stmts_l1; rw [if_neg (by simp)])
      have t2 := (Sn.bind (f := Sum.elim (fun _ => none) (fun j1 => some j1)) h (.inl (by rw [← cL_map]; rfl : _ = some (cL l)))).up
      exact t2.mono (by omega)
theorem stmts_cv {l : List r02_Stmt} (h : szL (cL l) ≤ 400000000000) : l02_Stmts l = some (cL l) := Sn.unf fun n => cvL _ l (Nat.le_refl _) h n
end Go.Proofs.YtokjbpmjdcbogaaGreatDoor.Abs.Wri
/- The statements' own systems, turned to the program's; the text that each Ast law asks for. -/
namespace Go.Proofs.YtokjbpmjdcbogaaGreatDoor.Abs.Wri
open Go Go.RowKit
set_option linter.unusedVariables false
set_option linter.unusedSimpArgs false
def cCh (c : r02_Chan) : ast_Chan := ⟨c.Name, c.Kind, c.Size, c.From, c.To, c.Tags⟩
def cMo (m : r02_Move) : ast_Move := ⟨m.From, m.Tag, m.To⟩
def cRu (r : r02_Rule) : ast_Rule := ⟨r.Chan, r.Moves.map cMo⟩
def cPr (p : r02_Proc) : ast_Proc := ⟨p.Name, p.Vars, cL p.Body⟩
def cSys (s : r02_System) : ast_System := ⟨s.Chans.map cCh, s.Rules.map cRu, s.Procs.map cPr⟩
theorem sumN_map {β γ : Type} (c : γ → Nat) (f : β → γ) : ∀ l : List β, sumN c (l.map f) = sumN (fun x => c (f x)) l
  | [] => rfl
  | x :: r => by simp only [List.map_cons, sumN, sumN_map c f r]
theorem sys_cv {s : r02_System} (h : szSys (cSys s) ≤ 400000000000) : l02_System s = some (cSys s) := by
  unfold szSys cSys at h
  simp only [sumN_map] at h
  have n1 := sumN_len (c := fun x => szCh (cCh x)) (fun x => by unfold szCh; omega) s.Chans
  have n2 := sumN_len (c := fun x => szR (cRu x)) (fun x => by unfold szR; omega) s.Rules
  have n3 := sumN_len (c := fun x => szP (cPr x)) (fun x => by unfold szP; omega) s.Procs
  unfold l02_System
  rw [maploop_f (body := l02_System_l1 s) cCh s.Chans (by omega) (fun i x acc hi hx hm ha hw => by
      unfold l02_System_l1
      rw [if_pos (by simpa using hi)]
      simp only [hx, Option.bind_eq_bind, Option.bind_some, hw]
      have hz := sumN_mem (c := fun x => szCh (cCh x)) hm
      have hz2 : szCh (cCh x) = 3 + x.Tags.length := rfl
      rw [app_ok (by simp; omega)]
      simp only [Option.bind_some, List.nil_append]
      rw [app_ok (by simp; omega)]
      rfl) (fun acc => by unfold l02_System_l1; rw [if_neg (by simp)])]
  simp only [Option.bind_eq_bind, Option.bind_some, Sum.elim_inr]
  rw [maploop_f (body := l02_System_l2 s) cRu s.Rules (by omega) (fun i x acc hi hx hm ha hw => by
      unfold l02_System_l2
      rw [if_pos (by simpa using hi)]
      simp only [hx, Option.bind_eq_bind, Option.bind_some, hw]
      have hz := sumN_mem (c := fun x => szR (cRu x)) hm
      have hz2 : szR (cRu x) = 1 + (x.Moves.map cMo).length := rfl
      rw [List.length_map] at hz2
      rw [maploop_f (body := l02_System_l3 s ((i : Int), acc)) cMo x.Moves (by omega) (fun j y ac hj hy hym hya hw => by
        unfold l02_System_l3
        simp only [hx, Option.bind_eq_bind, Option.bind_some]
        rw [if_pos (by simpa using hj)]
        simp only [hy, Option.bind_eq_bind, Option.bind_some, hw]
        rw [app_ok (by simp; omega)]
        rfl) (fun ac => by unfold l02_System_l3; simp only [hx, Option.bind_eq_bind, Option.bind_some]; rw [if_neg (by simp)])]
      simp only [Option.bind_some, Sum.elim_inr]
      rw [app_ok (by simp; omega)]
      rfl) (fun acc => by unfold l02_System_l2; rw [if_neg (by simp)])]
  simp only [Option.bind_some, Sum.elim_inr]
  rw [maploop_f (body := l02_System_l4 s) cPr s.Procs (by omega) (fun i x acc hi hx hm ha hw => by
      unfold l02_System_l4
      rw [if_pos (by simpa using hi)]
      simp only [hx, Option.bind_eq_bind, Option.bind_some, hw]
      have hz := sumN_mem (c := fun x => szP (cPr x)) hm
      have hz2 : szP (cPr x) = 1 + x.Vars.length + szL (cL x.Body) := rfl
      rw [app_ok (by simp; omega)]
      simp only [Option.bind_some, List.nil_append]
      rw [stmts_cv (by omega)]
      simp only [Option.bind_some]
      rw [app_ok (by simp; omega)]
      rfl) (fun acc => by unfold l02_System_l4; rw [if_neg (by simp)])]
  rfl
/-! ### One letter is a name -/
end Go.Proofs.YtokjbpmjdcbogaaGreatDoor.Abs.Wri
