/- What lexing is, over lists of bytes, and small facts on bytes and rounds; no program in sight. -/
import Derived.Test.YtaaihamelknhdaaDoorHandA
import Derived.Test.YtaaihamelknhdaaDoorAbsU
import Derived.Test.YtaaihamelknhdaaDoorGwD
namespace Go.Proofs.YtaaihamelknhdaaDoor.Abs
open Go Go.RowKit
set_option linter.unusedVariables false
set_option linter.unusedSimpArgs false
theorem iter_in {X O : Type} {body : X → Option (Sum X O)} {x y : X} (h : body x = some (.inl y)) : iter body x = iter body y := by rw [iter_eq, h]; rfl
theorem iter_out {X O : Type} {body : X → Option (Sum X O)} {x : X} {r : O} (h : body x = some (.inr r)) : iter body x = some r := by rw [iter_eq, h]; rfl
theorem w64_id {x : Int} (h0 : -9223372036854775808 ≤ x) (h1 : x ≤ 9223372036854775807) : IntKind.i64.wrap x = x := by
  simp [IntKind.wrap, IntKind.signed, IntKind.bits]; omega
theorem app_ok {α : Type} {B : Nat} {L M : List α} (h : (L.length + M.length) * B ≤ 140737488355328) : app B L M = some (L ++ M) := by unfold app; rw [if_pos h]
theorem idx_ok {α : Type} {l : List α} {i : Nat} (h : i < l.length) : idx l (i : Int) = some l[i] := by
  unfold idx; rw [if_pos (by omega)]; simp [h]
/-! ### Bytes -/
theorem size_list (s : ByteArray) : s.data.toList.length = s.size := by rw [Array.length_toList]; rfl
theorem bt_get (s : ByteArray) (i : Nat) (h : i < s.data.toList.length) : bt s (i : Int) = ((s.data.toList[i]).toNat : Int) := by
  have h' : i < s.size := by rw [← size_list]; exact h
  have := bt_at s (i : Int) (by simpa using h')
  rw [← this]; simp; rfl
theorem ext_list (s : ByteArray) (a b : Nat) : (s.extract a b).data.toList = (s.data.toList.take b).drop a := by simp [List.drop_take]
theorem ext_drop (s : ByteArray) (a : Nat) : (s.extract a s.size).data.toList = s.data.toList.drop a := by
  rw [ext_list, List.take_of_length_le (by rw [size_list]; omega)]
theorem app_list (s t : ByteArray) : (s ++ t).data.toList = s.data.toList ++ t.data.toList := by simp
theorem list_ext {s t : ByteArray} (h : s.data.toList = t.data.toList) : s = t := ByteArray.ext (Array.toList_inj.mp h)

/-! ### What lexing is -/
abbrev Bs := List UInt8
def isL (b : UInt8) : Bool := decide (97 ≤ b.toNat) && decide (b.toNat ≤ 122)
def isD (b : UInt8) : Bool := decide (48 ≤ b.toNat) && decide (b.toNat ≤ 57)
def isA (b : UInt8) : Bool := isL b || isD b
def isB (b : UInt8) : Bool := b == 32 || b == 10
def runL (l : Bs) : Nat := (l.takeWhile isA).length
def resv : List Bs := [[99, 104, 97, 110], [98, 108, 111, 99, 107], [100, 114, 111, 112], [108, 111, 115, 115, 121], [102, 114, 111, 109], [116, 111], [114, 117, 108, 101], [112, 114, 111, 99], [118, 97, 114], [105, 102], [101, 108, 115, 101], [119, 104, 105, 108, 101], [115, 101, 110, 100], [114, 101, 99, 118], [97, 115, 115, 101, 114, 116], [105, 110, 112, 117, 116]]
def dval (l : Bs) : Nat := l.foldl (fun a b => 10 * a + (b.toNat - 48)) 0
def okNum (t : Bs) : Bool := decide (t.length ≤ 10) && !(decide (1 < t.length) && t.head? == some 48) && t.all isD && decide (dval t ≤ 2147483647)
def ones : Bs := [123, 125, 40, 41, 59, 44, 46, 61, 60, 62, 43, 45, 42, 47, 37]
def twos : Bs := [61, 33, 60, 62]
def signL (l : Bs) : Nat :=
  if l[1]? = some 61 ∧ l.head? ∈ twos.map some then 2 else if l.head? ∈ ones.map some then 1 else 0
structure W where
  kind : Int
  len : Nat
  num : Nat
/-- The word that a text begins with, or the error. -/
def word1 (l : Bs) : Except Int W :=
  match l with
  | [] => .error 2
  | b :: _ =>
    if isL b then (if 12 < runL l then .error 3 else .ok ⟨if l.take (runL l) ∈ resv then 4 else 1, runL l, 0⟩)
    else if isD b then (if okNum (l.take (runL l)) then .ok ⟨2, runL l, dval (l.take (runL l))⟩ else .error 3)
    else if signL l = 0 then .error 2 else .ok ⟨3, signL l, 0⟩
theorem word1_cons (b : UInt8) (r : Bs) : word1 (b :: r) =
    if isL b then (if 12 < runL (b :: r) then .error 3 else .ok ⟨if (b :: r).take (runL (b :: r)) ∈ resv then 4 else 1, runL (b :: r), 0⟩)
    else if isD b then (if okNum ((b :: r).take (runL (b :: r))) then .ok ⟨2, runL (b :: r), dval ((b :: r).take (runL (b :: r)))⟩ else .error 3)
    else if signL (b :: r) = 0 then .error 2 else .ok ⟨3, signL (b :: r), 0⟩ := rfl
structure Tok where
  kind : Int
  text : Bs
  num : Nat
  at_ : Nat
/-- All words from a place on, and the error with its place. -/
def lexS (l : Bs) (p : Nat) : List Tok × Option (Nat × Int) :=
  match l with
  | [] => ([], none)
  | b :: r =>
    if isB b then lexS r (p + 1)
    else match word1 (b :: r) with
      | .error e => ([], some (p, e))
      | .ok w => let z := lexS (r.drop (w.len - 1)) (p + w.len); (⟨w.kind, (b :: r).take w.len, w.num, p⟩ :: z.1, z.2)
termination_by l.length
decreasing_by all_goals (simp; try omega)
/-- What is told. -/
def told (size : Nat) (z : List Tok × Option (Nat × Int)) : List Tok × Int × Int :=
  match z.2 with
  | some (p, e) => ([], (p : Int), e)
  | none => if 2000 < z.1.length then ([], (size : Int), 4) else (z.1, 0, 0)

/-! ### Facts -/
theorem runL_le (l : Bs) : runL l ≤ l.length := by
  unfold runL; have := List.takeWhile_prefix (p := isA) (l := l); exact this.length_le
theorem runL_cons (b : UInt8) (l : Bs) : runL (b :: l) = if isA b then runL l + 1 else 0 := by
  unfold runL; rw [List.takeWhile_cons]; split <;> simp
theorem runL_take (l : Bs) : l.take (runL l) = l.takeWhile isA := by
  unfold runL
  have := List.takeWhile_prefix (p := isA) (l := l)
  exact (List.prefix_iff_eq_take.mp this).symm
theorem runL_pos {b : UInt8} {l : Bs} (h : isA b = true) : 0 < runL (b :: l) := by rw [runL_cons, if_pos h]; omega
theorem signL_le (l : Bs) : signL l ≤ l.length := by
  unfold signL
  split
  · rename_i h; have := (List.getElem?_eq_some_iff.mp h.1).1; omega
  · split
    · rename_i h; cases l with
      | nil => simp at h
      | cons a t => simp
    · omega
theorem word1_len {l : Bs} {w : W} (h : word1 l = .ok w) : 0 < w.len ∧ w.len ≤ l.length := by
  cases l with
  | nil => simp [word1] at h
  | cons b r =>
    simp only [word1] at h
    split at h
    · rename_i hb; split at h
      · cases h
      · cases h; exact ⟨runL_pos (by simp [isA, hb]), runL_le _⟩
    · split at h
      · rename_i hb; split at h
        · cases h; exact ⟨runL_pos (by simp [isA, hb]), runL_le _⟩
        · cases h
      · split at h
        · cases h
        · rename_i hz; cases h; exact ⟨by simp; omega, signL_le _⟩
theorem lexS_nil (p : Nat) : lexS [] p = ([], none) := by rw [lexS]
theorem lexS_blank {b : UInt8} (r : Bs) (p : Nat) (h : isB b = true) : lexS (b :: r) p = lexS r (p + 1) := by rw [lexS, if_pos h]
theorem lexS_error {b : UInt8} {r : Bs} {p : Nat} {e : Int} (h : isB b = false) (hw : word1 (b :: r) = .error e) : lexS (b :: r) p = ([], some (p, e)) := by
  rw [lexS, if_neg (by simp [h]), hw]
theorem lexS_ok {b : UInt8} {r : Bs} {p : Nat} {w : W} (h : isB b = false) (hw : word1 (b :: r) = .ok w) :
    lexS (b :: r) p = (⟨w.kind, (b :: r).take w.len, w.num, p⟩ :: (lexS ((b :: r).drop w.len) (p + w.len)).1, (lexS ((b :: r).drop w.len) (p + w.len)).2) := by
  rw [lexS, if_neg (by simp [h]), hw]
  have := (word1_len hw).1
  have e : (b :: r).drop w.len = r.drop (w.len - 1) := by
    obtain ⟨n, hn⟩ : ∃ n, w.len = n + 1 := ⟨w.len - 1, by omega⟩
    rw [hn]; simp
  rw [e]

/-! ### Numbers -/
def dstep (a : Nat) (b : UInt8) : Nat := 10 * a + (b.toNat - 48)
theorem foldl_ge (l : Bs) : ∀ a, a * 10 ^ l.length ≤ l.foldl dstep a := by
  induction l with
  | nil => intro a; simp
  | cons b r ih =>
    intro a
    have h := ih (dstep a b)
    simp only [List.foldl_cons, List.length_cons]
    refine Nat.le_trans ?_ h
    rw [Nat.pow_succ, Nat.mul_comm (10 ^ r.length) 10, ← Nat.mul_assoc]
    exact Nat.mul_le_mul_right _ (by unfold dstep; omega)
theorem foldl_lt (l : Bs) (h : ∀ b ∈ l, isD b = true) : ∀ a, l.foldl dstep a < (a + 1) * 10 ^ l.length := by
  induction l with
  | nil => intro a; simp
  | cons b r ih =>
    intro a
    have hr := ih (fun x hx => h x (List.mem_cons_of_mem _ hx)) (dstep a b)
    have hb := h b List.mem_cons_self
    simp only [List.foldl_cons, List.length_cons]
    refine Nat.lt_of_lt_of_le hr ?_
    rw [Nat.pow_succ, Nat.mul_comm (10 ^ r.length) 10, ← Nat.mul_assoc]
    refine Nat.mul_le_mul_right _ ?_
    unfold dstep
    simp only [isD, Bool.and_eq_true, decide_eq_true_eq] at hb
    omega
theorem dval_eq (l : Bs) : dval l = l.foldl dstep 0 := rfl
theorem bidx_get (s : ByteArray) (i : Nat) (h : i < s.data.toList.length) : bidx s (i : Int) = some ((s.data.toList[i]).toNat : Int) := by
  have h' : i < s.size := by rw [← size_list]; exact h
  unfold bidx
  rw [if_pos (by omega), Int.toNat_natCast, getElem?_pos s i h']
  rfl
theorem ssub_ok {s : ByteArray} {a b : Nat} (h1 : a ≤ b) (h2 : b ≤ s.size) : ssub s (a : Int) (b : Int) = some (s.extract a b) := by
  unfold ssub; rw [if_pos ⟨by omega, by omega, by omega⟩]; simp
end Go.Proofs.YtaaihamelknhdaaDoor.Abs
/- lex.Lex, as it is printed, comes to what lexing is, of all texts of at most 4,194,304 bytes. -/
namespace Go.Proofs.YtaaihamelknhdaaDoor.Abs
open Go Go.RowKit
set_option linter.unusedVariables false
set_option linter.unusedSimpArgs false
theorem letter_f (b : UInt8) : lex_letter (b.toNat : Int) = some (isL b) := by
  unfold lex_letter isL
  by_cases h : 97 ≤ b.toNat
  · rw [if_pos (by simp; omega)]; simp only [h, decide_true, Bool.true_and]; exact congrArg some (decide_eq_decide.mpr (by omega))
  · rw [if_neg (by simp; omega)]; simp only [h, decide_false, Bool.false_and]
theorem digit_f (b : UInt8) : lex_digit (b.toNat : Int) = some (isD b) := by
  unfold lex_digit isD
  by_cases h : 48 ≤ b.toNat
  · rw [if_pos (by simp; omega)]; simp only [h, decide_true, Bool.true_and]; exact congrArg some (decide_eq_decide.mpr (by omega))
  · rw [if_neg (by simp; omega)]; simp only [h, decide_false, Bool.false_and]
theorem run_it (p : ByteArray) (hp : p.size ≤ 4194304) : ∀ (d i : Nat), p.size - i = d → i ≤ p.size →
    iter (lex_run_l1 p) (i : Int) = some (.inr ((i + runL (p.data.toList.drop i) : Nat) : Int)) := by
  intro d
  induction d with
  | zero =>
    intro i hd hi
    have : i = p.size := by omega
    refine iter_out ?_
    unfold lex_run_l1
    rw [if_neg (by simp; omega), List.drop_of_length_le (by rw [size_list]; omega)]
    simp [runL]
  | succ d ih =>
    intro i hd hi
    have hl : i < p.data.toList.length := by rw [size_list]; omega
    have e := List.drop_eq_getElem_cons hl
    have hb := bidx_get p i hl
    generalize p.data.toList[i] = b at e hb
    have hw : IntKind.i64.wrap ((i : Int) + 1) = ((i + 1 : Nat) : Int) := by rw [w64 (by omega) (by omega)]; omega
    have IH := ih (i + 1) (by omega) (by omega)
    have hs : (decide ((i : Int) < (p.size : Int))) = true := by simp; omega
    rw [e, runL_cons]
    by_cases hA : isA b = true
    · rw [if_pos hA]
      rw [iter_in (y := ((i + 1 : Nat) : Int)) ?_, IH]
      · congr 2; omega
      · unfold lex_run_l1
        rw [if_pos hs, hb]
        simp only [Option.bind_eq_bind, Option.bind_some, letter_f, digit_f, hw]
        unfold isA at hA
        cases hL : isL b
        · rw [hL] at hA; simp only [Bool.false_or] at hA; simp [hA]
        · simp
    · rw [if_neg hA]
      refine iter_out ?_
      unfold lex_run_l1
      rw [if_pos hs, hb]
      simp only [Option.bind_eq_bind, Option.bind_some, letter_f, digit_f]
      unfold isA at hA
      simp only [Bool.or_eq_true, not_or, Bool.not_eq_true] at hA
      simp [hA.1, hA.2]
theorem run_f (p : ByteArray) (hp : p.size ≤ 4194304) : lex_run p = some ((runL p.data.toList : Nat) : Int) := by
  have := run_it p hp p.size 0 (by omega) (by omega)
  unfold lex_run
  rw [show ((0 : Int)) = ((0 : Nat) : Int) from rfl, this]
  simp
theorem reserved_f (s : ByteArray) : lex_Reserved s = some (decide (s.data.toList ∈ resv)) := by
  unfold lex_Reserved
  simp only [Go.ByteArray.toList_eq]
  generalize s.data.toList = l
  by_cases hm : l ∈ resv
  · have hm2 := hm
    unfold resv at hm2
    simp only [List.mem_cons, List.not_mem_nil, or_false] at hm2
    rcases hm2 with rfl | rfl | rfl | rfl | rfl | rfl | rfl | rfl | rfl | rfl | rfl | rfl | rfl | rfl | rfl | rfl
    all_goals rfl
  · have hm2 := hm
    unfold resv at hm2
    simp only [List.mem_cons, List.not_mem_nil, or_false, not_or] at hm2
    obtain ⟨h0, h1, h2, h3, h4, h5, h6, h7, h8, h9, h10, h11, h12, h13, h14, h15⟩ := hm2
    simp only [hm, decide_false, beq_iff_eq, h0, h1, h2, h3, h4, h5, h6, h7, h8, h9, h10, h11, h12, h13, h14, h15, if_false]
theorem named_f (s : ByteArray) (hp : s.size ≤ 12) : lex_named s = some (⟨if s.data.toList ∈ resv then 4 else 1, s, 0, 0⟩, 0) := by
  unfold lex_named
  rw [if_neg (by simp; omega), reserved_f]
  by_cases hm : s.data.toList ∈ resv <;> simp [hm]
theorem idx_ge (l : Bs) (c : UInt8) : (0 ≤ Lib.indexByte l c) ↔ c ∈ l := by
  induction l with
  | nil => simp [Lib.indexByte]
  | cons b r ih =>
    simp only [Lib.indexByte]
    have hge := Lib.indexByte_ge r c
    by_cases hb : (b == c) = true
    · simp [(beq_iff_eq.mp hb).symm]
    · have hb' : ¬ b = c := by simpa using hb
      simp only [hb, Bool.false_eq_true, if_false]
      by_cases hr : (Lib.indexByte r c == -1) = true
      · simp only [hr, if_true]
        have : ¬ (0 ≤ Lib.indexByte r c) := by have := beq_iff_eq.mp hr; omega
        have : ¬ c ∈ r := fun h => this (ih.mpr h)
        simp [this, Ne.symm hb']
      · simp only [hr, Bool.false_eq_true, if_false]
        have : ¬ Lib.indexByte r c = -1 := by simpa using hr
        have h2 : c ∈ r := ih.mp (by omega)
        simp [h2]; omega
theorem u8_id (b : UInt8) : ((b.toNat : Int)).toNat.toUInt8 = b := by simp

theorem ibyte_f (l : Bs) (c : UInt8) : ∃ z, ibyte ⟨l.toArray⟩ (c.toNat : Int) = some z ∧ (decide (z ≥ 0) = decide (c ∈ l)) := by
  refine ⟨_, rfl, ?_⟩
  rw [u8_id]
  exact decide_eq_decide.mpr (idx_ge l c)
theorem sign_f (p : ByteArray) (h0 : 0 < p.size) : lex_sign p = some ((signL p.data.toList : Nat) : Int) := by
  have hl0 : 0 < p.data.toList.length := by rw [size_list]; omega
  have hb0 := bidx_get p 0 hl0
  have e0 : p.data.toList.head? = some (p.data.toList[0]) := by rw [List.head?_eq_getElem?]; exact List.getElem?_eq_getElem hl0
  generalize p.data.toList[0] = a at e0 hb0
  obtain ⟨z1, hz1, hd1⟩ := ibyte_f ones a
  obtain ⟨z2, hz2, hd2⟩ := ibyte_f twos a
  have ho : (p.data.toList.head? ∈ ones.map some) ↔ a ∈ ones := by rw [e0]; simp
  have ht : (p.data.toList.head? ∈ twos.map some) ↔ a ∈ twos := by rw [e0]; simp
  have hS : signL p.data.toList = if (p.data.toList[1]? = some 61 ∧ a ∈ twos) then 2 else if a ∈ ones then 1 else 0 := by
    unfold signL; simp only [ht, ho]
  rw [hS]
  unfold lex_sign
  have hz1 : ibyte (ByteArray.mk #[123, 125, 40, 41, 59, 44, 46, 61, 60, 62, 43, 45, 42, 47, 37]) (a.toNat : Int) = some z1 := hz1
  have hz2 : ibyte (ByteArray.mk #[61, 33, 60, 62]) (a.toNat : Int) = some z2 := hz2
  have hb0 : bidx p 0 = some (a.toNat : Int) := hb0
  simp only [hb0, Option.bind_eq_bind, Option.bind_some, hz1, hz2, hd1, hd2]
  by_cases h1 : 1 < p.size
  · have hl1 : 1 < p.data.toList.length := by rw [size_list]; omega
    have hb1 := bidx_get p 1 hl1
    have e1 : p.data.toList[1]? = some (p.data.toList[1]) := List.getElem?_eq_getElem hl1
    generalize p.data.toList[1] = c at e1 hb1
    have hb1 : bidx p 1 = some (c.toNat : Int) := hb1
    have hc61 : ((c.toNat : Int) == 61) = decide (c = 61) := by
      by_cases hc : c = 61
      · subst hc; rfl
      · have : ¬ ((c.toNat : Int) = 61) := by intro h; apply hc; apply UInt8.toNat_inj.mp; have : (61 : UInt8).toNat = 61 := rfl; omega
        simp [hc, this]
    have hgt : (decide ((p.size : Int) > 1)) = true := by simp; omega
    rw [e1]
    simp only [hgt, if_true, hb1, Option.bind_some, hc61]
    by_cases hc : c = 61 <;> by_cases hm : a ∈ twos <;> by_cases hn : a ∈ ones <;> simp [hc, hm, hn]
  · have e1 : p.data.toList[1]? = none := List.getElem?_eq_none (by rw [size_list]; omega)
    have hgt : (decide ((p.size : Int) > 1)) = false := by simp; omega
    rw [e1]
    simp only [hgt]
    by_cases hn : a ∈ ones <;> simp [hn]
/-! ### lex.number -/
theorem digs_isD (b : UInt8) : digs.contains b = isD b := by
  rw [Bool.eq_iff_iff]
  constructor
  · intro h
    have h : b ∈ digs := by simpa using h
    unfold digs at h
    simp only [List.mem_cons, List.not_mem_nil, or_false] at h
    rcases h with rfl | rfl | rfl | rfl | rfl | rfl | rfl | rfl | rfl | rfl <;> rfl
  · intro h
    simp only [isD, Bool.and_eq_true, decide_eq_true_eq] at h
    have h2 : b.toNat = 48 ∨ b.toNat = 49 ∨ b.toNat = 50 ∨ b.toNat = 51 ∨ b.toNat = 52 ∨ b.toNat = 53 ∨ b.toNat = 54 ∨ b.toNat = 55 ∨ b.toNat = 56 ∨ b.toNat = 57 := by omega
    have e : ∀ n, b.toNat = n → b = UInt8.ofNat n := fun n h => by rw [← h]; simp
    rcases h2 with h | h | h | h | h | h | h | h | h | h <;> (rw [e _ h]; rfl)
theorem dw_nil {p : UInt8 → Bool} {l : Bs} : l.dropWhile p = [] ↔ ∀ x ∈ l, p x = true := by
  induction l with
  | nil => simp
  | cons b r ih =>
    rw [List.dropWhile_cons]
    by_cases h : p b = true
    · rw [if_pos h, ih]; simp [h]
    · rw [if_neg h]; simp [h]
theorem trim_nil (l : Bs) : (Lib.trimS l digs = []) ↔ (l.all isD = true) := by
  have hp : (fun b => digs.contains b) = isD := funext digs_isD
  unfold Lib.trimS Lib.trimLeftS Lib.trimRightS
  rw [show (digs.contains ·) = isD from hp]
  constructor
  · intro h
    rw [dw_nil] at h
    have h2 : List.dropWhile isD l.reverse = [] := by
      cases hm : List.dropWhile isD l.reverse with
      | nil => rfl
      | cons x m =>
        have h3 := List.head_dropWhile_not isD (l := l.reverse) (by rw [hm]; simp)
        have h4 := h x (by rw [List.mem_reverse, hm]; simp)
        simp only [hm, List.head_cons] at h3
        rw [h4] at h3; cases h3
    rw [dw_nil] at h2
    exact List.all_eq_true.mpr fun x hx => h2 x (by simpa using hx)
  · intro h
    have h1 : List.dropWhile isD l.reverse = [] := dw_nil.mpr fun x hx => List.all_eq_true.mp h x (by simpa using hx)
    rw [h1]; rfl
theorem parseM (l : Bs) (h : ∀ b ∈ l, isD b = true) : ∀ acc, acc ≤ 4294967295 →
    Lib.parseUintM 4294967295 acc l = if l.foldl dstep acc ≤ 4294967295 then .ok (l.foldl dstep acc) else .range := by
  induction l with
  | nil => intro acc ha; simp [Lib.parseUintM, ha]
  | cons c r ih =>
    intro acc ha
    have hc := h c List.mem_cons_self
    simp only [isD, Bool.and_eq_true, decide_eq_true_eq] at hc
    have hr := ih (fun x hx => h x (List.mem_cons_of_mem _ hx))
    rw [List.foldl_cons]
    simp only [Lib.parseUintM]
    rw [if_pos hc, if_neg (by omega)]
    have es : acc * 10 + (c.toNat - 48) = dstep acc c := by unfold dstep; omega
    rw [es]
    by_cases hM : 4294967295 < dstep acc c
    · rw [if_pos hM, if_neg]
      have := foldl_ge r (dstep acc c)
      have hp : 1 ≤ 10 ^ r.length := Nat.one_le_pow _ _ (by omega)
      have := Nat.mul_le_mul_left (dstep acc c) hp
      omega
    · rw [if_neg hM, hr _ (by omega)]
theorem parse_all (c : UInt8) (r : Bs) (h : ∀ b ∈ c :: r, isD b = true) :
    Lib.parseIntB 32 (c :: r) = if dval (c :: r) ≤ 2147483647 then .ok ((dval (c :: r) : Nat) : Int) else .range := by
  have hc := h c List.mem_cons_self
  simp only [isD, Bool.and_eq_true, decide_eq_true_eq] at hc
  have hp := parseM (c :: r) h 0 (by omega)
  simp only [Lib.parseIntB]
  rw [if_neg (by omega)]
  unfold Lib.parseUintB
  rw [if_neg (by simp)]
  rw [show (2 ^ 32 - 1 : Nat) = 4294967295 from rfl, hp, ← dval_eq]
  generalize dval (c :: r) = v
  have h45 : ¬ (c.toNat = 45) := by omega
  by_cases h1 : v ≤ 4294967295
  · rw [if_pos h1]
    by_cases h2 : v ≤ 2147483647
    · rw [if_pos h2]; dsimp only; rw [if_neg (by rintro ⟨_, h⟩; omega), if_neg (by rintro ⟨h, _⟩; exact h45 h), if_neg h45]
    · rw [if_neg h2]; dsimp only; rw [if_pos ⟨h45, by omega⟩]
  · rw [if_neg h1, if_neg (by omega)]
theorem dval_len (c : UInt8) (r : Bs) (hc : isD c = true) (h48 : c ≠ 48) (hv : dval (c :: r) ≤ 2147483647) : (c :: r).length ≤ 10 := by
  simp only [isD, Bool.and_eq_true, decide_eq_true_eq] at hc
  have h1 : c.toNat ≠ 48 := fun h => h48 (UInt8.toNat_inj.mp (by rw [h]; rfl))
  rw [dval_eq, List.foldl_cons] at hv
  have hg := foldl_ge r (dstep 0 c)
  have hs : 1 ≤ dstep 0 c := by unfold dstep; omega
  have h2 : 10 ^ r.length ≤ 2147483647 := by
    have := Nat.mul_le_mul_right (10 ^ r.length) hs
    omega
  have h3 : r.length < 10 := by
    refine Decidable.byContradiction fun hn => ?_
    have : 10 ^ 10 ≤ 10 ^ r.length := Nat.pow_le_pow_right (by omega) (by omega)
    have : (10 : Nat) ^ 10 = 10000000000 := by decide
    omega
  simp; omega
theorem number_f (s : ByteArray) (c : UInt8) (r : Bs) (e : s.data.toList = c :: r) (hc : isD c = true) (hs : s.size ≤ 4194304) :
    lexnum s = if okNum (c :: r) then some (((dval (c :: r) : Nat) : Int), 0) else some (0, 3) := by
  have hsz : s.size = (c :: r).length := by rw [← e, size_list]
  have hb := bt_get s 0 (by rw [e]; simp)
  have hb : bt s 0 = (c.toNat : Int) := by simpa [e] using hb
  have h48 : (bt s 0 = 48) ↔ c = 48 := by
    rw [hb]; constructor
    · intro h; exact UInt8.toNat_inj.mp (by have : (48 : UInt8).toNat = 48 := rfl; omega)
    · rintro rfl; rfl
  unfold lexnum okNum
  rw [if_pos (by omega), e, hsz]
  have hh : ((c :: r).head? == some 48) = decide (c = 48) := by
    by_cases h : c = 48
    · subst h; rfl
    · simp [h]
  rw [hh]
  by_cases hall : (c :: r).all isD = true
  · have ht := (trim_nil (c :: r)).mpr hall
    by_cases h1 : 1 < (c :: r).length ∧ c = 48
    · rw [if_pos (.inr ⟨h1.1, h48.mpr h1.2⟩)]
      rw [if_neg]
      simp only [Bool.and_eq_true, decide_eq_true_eq, Bool.not_eq_true', Bool.and_eq_false_iff, decide_eq_false_iff_not]
      rintro ⟨⟨⟨_, h | h⟩, _⟩, _⟩
      · exact h h1.1
      · exact h h1.2
    · rw [if_neg (by rintro (h | ⟨h, h'⟩); exact h ht; exact h1 ⟨h, h48.mp h'⟩), parse_all c r (fun b hb => List.all_eq_true.mp hall b hb)]
      by_cases hv : dval (c :: r) ≤ 2147483647
      · have hl : (c :: r).length ≤ 10 := by
          by_cases hz : c = 48
          · have : ¬ 1 < (c :: r).length := fun h => h1 ⟨h, hz⟩
            omega
          · exact dval_len c r hc hz hv
        rw [if_pos hv, if_pos]
        simp only [Bool.and_eq_true, hall, decide_eq_true_eq, hv, hl, and_true, true_and, Bool.not_eq_true', Bool.and_eq_false_iff, decide_eq_false_iff_not]
        by_cases hz : c = 48
        · left; exact fun h => h1 ⟨h, hz⟩
        · right; exact hz
      · rw [if_neg hv, if_neg]
        simp only [Bool.and_eq_true, decide_eq_true_eq, hv, and_false, not_false_eq_true]
  · rw [if_pos (.inl fun h => hall ((trim_nil _).mp h)), if_neg]
    intro h
    simp only [Bool.and_eq_true] at h
    exact hall h.1.2

/-! ### lex.word, lex.Lex -/
theorem word_f (p : ByteArray) (b : UInt8) (r : Bs) (e : p.data.toList = b :: r) (hp : p.size ≤ 4194304) :
    match word1 (b :: r) with
    | .ok w => lex_word p = some (⟨w.kind, p.extract 0 w.len, (w.num : Int), 0⟩, 0)
    | .error c => ∃ x, c ≠ 0 ∧ lex_word p = some (x, c) := by
  have hsz : p.size = (b :: r).length := by rw [← e, size_list]
  have h0 : 0 < p.size := by rw [hsz]; simp
  have hb : bidx p 0 = some (b.toNat : Int) := by
    have := bidx_get p 0 (by rw [e]; simp)
    simpa [e] using this
  have hrun := run_f p hp
  rw [e] at hrun
  have hrl := runL_le (b :: r)
  have hxl : (p.extract 0 (runL (b :: r))).data.toList = (b :: r).take (runL (b :: r)) := by rw [ext_list, e]; simp
  have hxs : (p.extract 0 (runL (b :: r))).size = runL (b :: r) := by rw [← size_list, hxl, List.length_take]; omega
  have hcut : ∀ n : Nat, n ≤ p.size → ssub p 0 (n : Int) = some (p.extract 0 n) := fun n hn => ssub_ok (Nat.zero_le _) hn
  unfold lex_word
  simp only [hb, Option.bind_eq_bind, Option.bind_some, letter_f, digit_f]
  rw [word1_cons]
  by_cases hL : isL b = true
  · rw [if_pos hL, if_pos hL, hrun]
    simp only [Option.bind_some, hcut _ (by omega : runL (b :: r) ≤ p.size)]
    by_cases h12 : 12 < runL (b :: r)
    · rw [if_pos h12]
      refine ⟨⟨0, ByteArray.mk #[], 0, 0⟩, by decide, ?_⟩
      unfold lex_named
      rw [if_pos (by simp [hxs]; omega)]; rfl
    · rw [if_neg h12, named_f _ (by omega), hxl]; rfl
  · rw [if_neg hL, if_neg hL]
    by_cases hD : isD b = true
    · have hxe : (p.extract 0 (runL (b :: r))).data.toList = b :: r.take (runL (b :: r) - 1) := by
        rw [hxl]
        have := runL_pos (b := b) (l := r) (by simp [isA, hD])
        obtain ⟨n, hn⟩ : ∃ n, runL (b :: r) = n + 1 := ⟨runL (b :: r) - 1, by omega⟩
        rw [hn]; simp
      have hnum := number_f (p.extract 0 (runL (b :: r))) b _ hxe hD (by omega)
      rw [← hxe, hxl] at hnum
      rw [if_pos hD, if_pos hD, hrun]
      simp only [Option.bind_some, hcut _ (by omega : runL (b :: r) ≤ p.size), hnum]
      by_cases ho : okNum ((b :: r).take (runL (b :: r))) = true
      · rw [if_pos ho, if_pos ho]; rfl
      · rw [if_neg ho, if_neg ho]; exact ⟨_, by decide, rfl⟩
    · rw [if_neg hD, if_neg hD, sign_f p h0, e]
      have hsl := signL_le (b :: r)
      simp only [Option.bind_some]
      by_cases hz : signL (b :: r) = 0
      · rw [if_pos hz, if_pos (by simp [hz])]
        exact ⟨_, by decide, rfl⟩
      · rw [if_neg hz, if_neg (by simpa using hz), hcut _ (by omega)]; rfl
def tokT (t : Tok) : lex_Token := ⟨t.kind, ⟨t.text.toArray⟩, (t.num : Int), (t.at_ : Int)⟩
def finT (size : Nat) (z : List Tok × Option (Nat × Int)) : List lex_Token × Int × Int :=
  ((told size z).1.map tokT, (told size z).2.1, (told size z).2.2)
theorem finT_err (size : Nat) (acc : List Tok) (p : Nat) (e : Int) : finT size (acc, some (p, e)) = ([], (p : Int), e) := rfl
theorem lex_it (s : ByteArray) (hs : s.size ≤ 4194304) : ∀ (d i : Nat) (acc : List Tok), s.size - i = d → i ≤ s.size → acc.length ≤ i →
    (iter (lex_Lex_l1 s) ((i : Int), acc.map tokT) >>= Sum.elim (fun r => some r) (fun j1 => if (decide ((j1.length : Int) > 2000)) then (some ([], (s.size : Int), 4)) else (some (j1, 0, 0)))) = some (finT s.size (acc ++ (lexS (s.data.toList.drop i) i).1, (lexS (s.data.toList.drop i) i).2)) := by
  intro d
  induction d using Nat.strongRecOn with
  | _ d ih =>
  intro i acc hd hi ha
  by_cases hlt : i < s.size
  · have hl : i < s.data.toList.length := by rw [size_list]; omega
    have e := List.drop_eq_getElem_cons hl
    have hb := bidx_get s i hl
    generalize s.data.toList[i] = b at e hb
    have hw : IntKind.i64.wrap ((i : Int) + 1) = ((i + 1 : Nat) : Int) := by rw [w64 (by omega) (by omega)]; omega
    have hs1 : (decide ((i : Int) < (s.size : Int))) = true := by simp; omega
    have h32 : ((b.toNat : Int) == 32) = (b == 32) := by
      rw [Bool.eq_iff_iff, beq_iff_eq, beq_iff_eq]
      constructor
      · intro h; exact UInt8.toNat_inj.mp (by have : (32 : UInt8).toNat = 32 := rfl; omega)
      · rintro rfl; rfl
    have h10 : ((b.toNat : Int) == 10) = (b == 10) := by
      rw [Bool.eq_iff_iff, beq_iff_eq, beq_iff_eq]
      constructor
      · intro h; exact UInt8.toNat_inj.mp (by have : (10 : UInt8).toNat = 10 := rfl; omega)
      · rintro rfl; rfl
    have hJ : (if (b == 32) = true then some true else some (b == 10)) = some (isB b) := by
      unfold isB; cases (b == 32) <;> simp
    have hbody : lex_Lex_l1 s ((i : Int), acc.map tokT) = (if isB b then some (.inl (((i + 1 : Nat) : Int), acc.map tokT)) else
        (ssub s (i : Int) (s.size : Int) >>= fun v3 => lex_word v3 >>= fun v4 => if (v4.2 != 0) then (some (.inr (.inl ([], (i : Int), v4.2))))
          else (app 40 (acc.map tokT) [(lex_Token.mk v4.1.Kind v4.1.Text v4.1.Num (i : Int))] >>= fun v5 => some (.inl ((IntKind.i64.wrap ((i : Int) + (v4.1.Text.size : Int))), v5))))) := by
      unfold lex_Lex_l1
      rw [if_pos hs1]
      simp only [hb, Option.bind_eq_bind, Option.bind_some, h32, h10, hw, hJ]
    rw [e]
    by_cases hB : isB b = true
    · rw [lexS_blank _ _ hB, iter_in (y := (((i + 1 : Nat) : Int), acc.map tokT)) (by rw [hbody, if_pos hB])]
      exact ih (s.size - (i + 1)) (by omega) (i + 1) acc rfl (by omega) (by omega)
    · have hB' : isB b = false := by simpa using hB
      rw [if_neg hB, ssub_ok (by omega) (Nat.le_refl _)] at hbody
      simp only [Option.bind_eq_bind, Option.bind_some] at hbody
      have hpl : (s.extract i s.size).data.toList = b :: s.data.toList.drop (i + 1) := by rw [ext_drop, e]
      have hps : (s.extract i s.size).size ≤ 4194304 := by rw [ByteArray.size_extract]; omega
      have hwd := word_f (s.extract i s.size) b _ hpl hps
      cases hw1 : word1 (b :: s.data.toList.drop (i + 1)) with
      | error c =>
        rw [hw1] at hwd
        obtain ⟨x, hc, hE⟩ := hwd
        rw [hE] at hbody
        simp only [Option.bind_some] at hbody
        rw [if_pos (by simpa using hc)] at hbody
        rw [iter_out hbody, lexS_error hB' hw1, finT_err]
        rfl
      | ok w =>
        rw [hw1] at hwd
        have hlen := word1_len hw1
        have hlen2 : w.len ≤ s.size - i := by
          have := hlen.2
          rw [← hpl, ext_drop, List.length_drop, size_list] at this
          exact this
        have hx : (s.extract i s.size).extract 0 w.len = (⟨((b :: s.data.toList.drop (i + 1)).take w.len).toArray⟩ : ByteArray) := by
          refine list_ext ?_
          rw [ext_list, hpl]; simp
        have hxs : ((⟨((b :: s.data.toList.drop (i + 1)).take w.len).toArray⟩ : ByteArray)).size = w.len := by
          rw [← size_list]; simp only [List.length_take]
          omega
        have hd2 : (b :: s.data.toList.drop (i + 1)).drop w.len = s.data.toList.drop (i + w.len) := by
          rw [← e, List.drop_drop]
        rw [hwd] at hbody
        simp only [Option.bind_some] at hbody
        rw [if_neg (by simp), app_ok (by simp; omega)] at hbody
        simp only [Option.bind_some] at hbody
        rw [hx, hxs, w64 (by omega) (by omega)] at hbody
        have IH := ih (s.size - (i + w.len)) (by omega) (i + w.len) (acc ++ [(⟨w.kind, (b :: s.data.toList.drop (i + 1)).take w.len, w.num, i⟩ : Tok)]) rfl (by omega) (by simp; omega)
        rw [iter_in hbody, lexS_ok hB' hw1, hd2]
        simp only [List.map_append, List.map_cons, List.map_nil, List.append_assoc, List.cons_append, List.nil_append] at IH
        rw [← show (((i + w.len : Nat) : Int)) = (i : Int) + (w.len : Int) by push_cast; rfl]
        exact IH
  · have hie : i = s.size := by omega
    have hnil : s.data.toList.drop i = [] := List.drop_of_length_le (by rw [size_list]; omega)
    rw [hnil, lexS_nil]
    rw [iter_out (r := .inr (acc.map tokT)) (by unfold lex_Lex_l1; rw [if_neg (by simp; omega)])]
    simp only [List.append_nil, finT, told, List.length_map, Option.bind_eq_bind, Option.bind_some, Sum.elim_inr]
    by_cases h2 : 2000 < acc.length
    · rw [if_pos (by simp; omega), if_pos h2]; rfl
    · rw [if_neg (by simp; omega), if_neg h2]
theorem lex_f (s : ByteArray) (hs : s.size ≤ 4194304) : lex_Lex s = some (finT s.size (lexS s.data.toList 0)) := by
  have := lex_it s hs s.size 0 [] (by omega) (by omega) (by simp)
  unfold lex_Lex
  simpa using this
end Go.Proofs.YtaaihamelknhdaaDoor.Abs
