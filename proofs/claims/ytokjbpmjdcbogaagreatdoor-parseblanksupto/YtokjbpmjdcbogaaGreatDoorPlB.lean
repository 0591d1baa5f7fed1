/- What lexing is, over lists of bytes, and small facts on bytes and rounds; no program in sight. -/
import Derived.Test.YtokjbpmjdcbogaaGreatDoorHandA
import Derived.Test.YtokjbpmjdcbogaaGreatDoorAbsU
import Derived.Test.YtokjbpmjdcbogaaGreatDoorGwD
import Derived.Lib.ItoaLen
namespace Go.Proofs.YtokjbpmjdcbogaaGreatDoor.Abs
open Go Go.RowKit
set_option linter.unusedVariables false
set_option linter.unusedSimpArgs false
theorem zcw {X O : Type} {body : X → Option (Sum X O)} {x y : X} (h : body x = some (.inl y)) : iter body x = iter body y := by rw [z7m, h]; rfl
theorem z3x {X O : Type} {body : X → Option (Sum X O)} {x : X} {r : O} (h : body x = some (.inr r)) : iter body x = some r := by rw [z7m, h]; rfl
theorem z6m {α : Type} {B : Nat} {L M : List α} (h : (L.length + M.length) * B ≤ 140737488355328) : app B L M = some (L ++ M) := by unfold app; rw [if_pos h]
theorem zf3 {α : Type} {l : List α} {i : Nat} (h : i < l.length) : idx l (i : Int) = some l[i] := by
 unfold idx; rw [if_pos (by omega)]; simp [h]
/-! ### Bytes -/
theorem z3e (s : ByteArray) : s.data.toList.length = s.size := by rw [Array.length_toList]; rfl
theorem z06r (s : ByteArray) (i : Nat) (h : i < s.data.toList.length) : bt s (i : Int) = ((s.data.toList[i]).toNat : Int) := by
 have h' : i < s.size := by rw [← z3e]; exact h
 have := zwi s (i : Int) (by simpa using h')
 rw [← this]; simp; rfl
theorem ext_list (s : ByteArray) (a b : Nat) : (s.extract a b).data.toList = (s.data.toList.take b).drop a := by simp [List.drop_take]
theorem zsr (s : ByteArray) (a : Nat) : (s.extract a s.size).data.toList = s.data.toList.drop a := by
 rw [ext_list, List.take_of_length_le (by rw [z3e]; omega)]
theorem zss {s t : ByteArray} (h : s.data.toList = t.data.toList) : s = t := ByteArray.ext (Array.toList_inj.mp h)

/-! ### What lexing is -/
abbrev Bs := List UInt8
def isL (b : UInt8) : Bool := decide (97 ≤ b.toNat) && decide (b.toNat ≤ 122)
def isD (b : UInt8) : Bool := decide (48 ≤ b.toNat) && decide (b.toNat ≤ 57)
def isA (b : UInt8) : Bool := isL b || isD b
def isB (b : UInt8) : Bool := b == 32 || b == 10
def runL (l : Bs) : Nat := (l.takeWhile isA).length
def resv : List Bs := [[99, 104, 97, 110], [98, 108, 111, 99, 107], [100, 114, 111, 112], [108, 111, 115, 115, 121], [102, 114, 111, 109], [116, 111], [114, 117, 108, 101], [112, 114, 111, 99], [118, 97, 114], [105, 102], [101, 108, 115, 101], [119, 104, 105, 108, 101], [115, 101, 110, 100], [114, 101, 99, 118], [97, 115, 115, 101, 114, 116], [105, 110, 112, 117, 116]]
def dval (l : Bs) : Nat := l.foldl (fun a b => 10 * a + (b.toNat - 48)) 0
def zol (t : Bs) : Bool := decide (t.length ≤ 10) && !(decide (1 < t.length) && t.head? == some 48) && t.all isD && decide (dval t ≤ 2147483647)
def ones : Bs := [123, 125, 40, 41, 59, 44, 46, 61, 60, 62, 43, 45, 42, 47, 37]
def twos : Bs := [61, 33, 60, 62]
def zce (l : Bs) : Nat :=
 if l[1]? = some 61 ∧ l.head? ∈ twos.map some then 2 else if l.head? ∈ ones.map some then 1 else 0
structure W where
 kind : Int
 len : Nat
 num : Nat
/-- The word that a text begins with, or the error. -/
def zdf (l : Bs) : Except Int W :=
 match l with
 | [] => .error 2
 | b :: _ =>
  if isL b then (if 12 < runL l then .error 3 else .ok ⟨if l.take (runL l) ∈ resv then 4 else 1, runL l, 0⟩)
  else if isD b then (if zol (l.take (runL l)) then .ok ⟨2, runL l, dval (l.take (runL l))⟩ else .error 3)
  else if zce l = 0 then .error 2 else .ok ⟨3, zce l, 0⟩
theorem zbt (b : UInt8) (r : Bs) : zdf (b :: r) =
  if isL b then (if 12 < runL (b :: r) then .error 3 else .ok ⟨if (b :: r).take (runL (b :: r)) ∈ resv then 4 else 1, runL (b :: r), 0⟩)
  else if isD b then (if zol ((b :: r).take (runL (b :: r))) then .ok ⟨2, runL (b :: r), dval ((b :: r).take (runL (b :: r)))⟩ else .error 3)
  else if zce (b :: r) = 0 then .error 2 else .ok ⟨3, zce (b :: r), 0⟩ := rfl
structure Tok where
 kind : Int
 text : Bs
 num : Nat
 at_ : Nat
/-- All words from a place on, and the error with its place. -/
def lexS (l : Bs) (p : Nat) : List Tok × Option (Nat × Int) :=
 match l with
 | [] => ([], none)
 | b :: r =>
  if isB b then lexS r (p + 1)
  else match zdf (b :: r) with
   | .error e => ([], some (p, e))
   | .ok w => let z := lexS (r.drop (w.len - 1)) (p + w.len); (⟨w.kind, (b :: r).take w.len, w.num, p⟩ :: z.1, z.2)
termination_by l.length
decreasing_by all_goals (simp; try omega)
/-- What is told. -/
def told (size : Nat) (z : List Tok × Option (Nat × Int)) : List Tok × Int × Int :=
 match z.2 with
 | some (p, e) => ([], (p : Int), e)
 | none => if 2000 < z.1.length then ([], (size : Int), 4) else (z.1, 0, 0)

/-! ### Facts -/
theorem zmv (l : Bs) : runL l ≤ l.length := by
 unfold runL; have := List.takeWhile_prefix (p := isA) (l := l); exact this.length_le
theorem zc9 (b : UInt8) (l : Bs) : runL (b :: l) = if isA b then runL l + 1 else 0 := by
 unfold runL; rw [List.takeWhile_cons]; split <;> simp
theorem zja {b : UInt8} {l : Bs} (h : isA b = true) : 0 < runL (b :: l) := by rw [zc9, if_pos h]; omega
theorem zmw (l : Bs) : zce l ≤ l.length := by
 unfold zce
 split
 ·rename_i h; have := (List.getElem?_eq_some_iff.mp h.1).1; omega
 ·split
  ·rename_i h; cases l with
   | nil => simp at h
   | cons a t => simp
  ·omega
theorem zhl {l : Bs} {w : W} (h : zdf l = .ok w) : 0 < w.len ∧ w.len ≤ l.length := by
 cases l with
 | nil => simp [zdf] at h
 | cons b r =>
  simp only [zdf] at h
  split at h
  ·rename_i hb; split at h
   ·cases h
   ·cases h; exact ⟨zja (by simp [isA, hb]), zmv _⟩
  ·split at h
   ·rename_i hb; split at h
    ·cases h; exact ⟨zja (by simp [isA, hb]), zmv _⟩
    ·cases h
   ·split at h
    ·cases h
    ·rename_i hz; cases h; exact ⟨by simp; omega, zmw _⟩
theorem zmm (p : Nat) : lexS [] p = ([], none) := by rw [lexS]
theorem zif {b : UInt8} (r : Bs) (p : Nat) (h : isB b = true) : lexS (b :: r) p = lexS r (p + 1) := by rw [lexS, if_pos h]
theorem zlt {b : UInt8} {r : Bs} {p : Nat} {e : Int} (h : isB b = false) (hw : zdf (b :: r) = .error e) : lexS (b :: r) p = ([], some (p, e)) := by
 rw [lexS, if_neg (by simp [h]), hw]
theorem zqp {b : UInt8} {r : Bs} {p : Nat} {w : W} (h : isB b = false) (hw : zdf (b :: r) = .ok w) :
  lexS (b :: r) p = (⟨w.kind, (b :: r).take w.len, w.num, p⟩ :: (lexS ((b :: r).drop w.len) (p + w.len)).1, (lexS ((b :: r).drop w.len) (p + w.len)).2) := by
 rw [lexS, if_neg (by simp [h]), hw]
 have := (zhl hw).1
 have e : (b :: r).drop w.len = r.drop (w.len - 1) := by
  obtain ⟨n, hn⟩ : ∃ n, w.len = n + 1 := ⟨w.len - 1, by omega⟩
  rw [hn]; simp
 rw [e]

/-! ### Numbers -/
def zf6 (a : Nat) (b : UInt8) : Nat := 10 * a + (b.toNat - 48)
theorem zst (l : Bs) : ∀ a, a * 10 ^ l.length ≤ l.foldl zf6 a := by
 induction l with
 | nil => intro a; simp
 | cons b r ih =>
  intro a
  have h := ih (zf6 a b)
  simp only [List.foldl_cons, List.length_cons]
  refine Nat.le_trans ?_ h
  rw [Nat.pow_succ, Nat.mul_comm (10 ^ r.length) 10, ← Nat.mul_assoc]
  exact Nat.mul_le_mul_right _ (by unfold zf6; omega)
theorem z001 (l : Bs) (h : ∀ b ∈ l, isD b = true) : ∀ a, l.foldl zf6 a < (a + 1) * 10 ^ l.length := by
 induction l with
 | nil => intro a; simp
 | cons b r ih =>
  intro a
  have hr := ih (fun x hx => h x (List.mem_cons_of_mem _ hx)) (zf6 a b)
  have hb := h b List.mem_cons_self
  simp only [List.foldl_cons, List.length_cons]
  refine Nat.lt_of_lt_of_le hr ?_
  rw [Nat.pow_succ, Nat.mul_comm (10 ^ r.length) 10, ← Nat.mul_assoc]
  refine Nat.mul_le_mul_right _ ?_
  unfold zf6
  simp only [isD, Bool.and_eq_true, decide_eq_true_eq] at hb
  omega
theorem zr0 (l : Bs) : dval l = l.foldl zf6 0 := rfl
theorem za6 (s : ByteArray) (i : Nat) (h : i < s.data.toList.length) : bidx s (i : Int) = some ((s.data.toList[i]).toNat : Int) := by
 have h' : i < s.size := by rw [← z3e]; exact h
 unfold bidx
 rw [if_pos (by omega), Int.toNat_natCast, getElem?_pos s i h']
 rfl
theorem zmx {s : ByteArray} {a b : Nat} (h1 : a ≤ b) (h2 : b ≤ s.size) : ssub s (a : Int) (b : Int) = some (s.extract a b) := by
 unfold ssub; rw [if_pos ⟨by omega, by omega, by omega⟩]; simp
end Go.Proofs.YtokjbpmjdcbogaaGreatDoor.Abs
/- lex.Lex, as it is printed, comes to what lexing is, of all texts of at most 4,194,304 bytes. -/
namespace Go.Proofs.YtokjbpmjdcbogaaGreatDoor.Abs
open Go Go.RowKit
set_option linter.unusedVariables false
set_option linter.unusedSimpArgs false
theorem zmy (b : UInt8) : zbp (b.toNat : Int) = some (isL b) := by
 unfold zbp isL
 by_cases h : 97 ≤ b.toNat
 ·rw [if_pos (by simp; omega)]; simp only [h, decide_true, Bool.true_and]; exact congrArg some (decide_eq_decide.mpr (by omega))
 ·rw [if_neg (by simp; omega)]; simp only [h, decide_false, Bool.false_and]
theorem zr1 (b : UInt8) : zd1 (b.toNat : Int) = some (isD b) := by
 unfold zd1 isD
 by_cases h : 48 ≤ b.toNat
 ·rw [if_pos (by simp; omega)]; simp only [h, decide_true, Bool.true_and]; exact congrArg some (decide_eq_decide.mpr (by omega))
 ·rw [if_neg (by simp; omega)]; simp only [h, decide_false, Bool.false_and]
theorem z06s (p : ByteArray) (hp : p.size ≤ 4194304) : ∀ (d i : Nat), p.size - i = d → i ≤ p.size →
  iter (zak p) (i : Int) = some (.inr ((i + runL (p.data.toList.drop i) : Nat) : Int)) := by
 intro d
 induction d with
 | zero =>
  intro i hd hi
  have : i = p.size := by omega
  refine z3x ?_
  unfold zak
  rw [if_neg (by simp; omega), List.drop_of_length_le (by rw [z3e]; omega)]
  simp [runL]
 | succ d ih =>
  intro i hd hi
  have hl : i < p.data.toList.length := by rw [z3e]; omega
  have e := List.drop_eq_getElem_cons hl
  have hb := za6 p i hl
  generalize p.data.toList[i] = b at e hb
  have hw : IntKind.i64.wrap ((i : Int) + 1) = ((i + 1 : Nat) : Int) := by rw [w64 (by omega) (by omega)]; omega
  have IH := ih (i + 1) (by omega) (by omega)
  have hs : (decide ((i : Int) < (p.size : Int))) = true := by simp; omega
  rw [e, zc9]
  by_cases hA : isA b = true
  ·rw [if_pos hA]
   rw [zcw (y := ((i + 1 : Nat) : Int)) ?_, IH]
   ·congr 2; omega
   ·unfold zak
    rw [if_pos hs, hb]
    simp only [Option.bind_eq_bind, Option.bind_some, zmy, zr1, hw]
    unfold isA at hA
    cases hL : isL b
    ·rw [hL] at hA; simp only [Bool.false_or] at hA; simp [hA]
    ·simp
  ·rw [if_neg hA]
   refine z3x ?_
   unfold zak
   rw [if_pos hs, hb]
   simp only [Option.bind_eq_bind, Option.bind_some, zmy, zr1]
   unfold isA at hA
   simp only [Bool.or_eq_true, not_or, Bool.not_eq_true] at hA
   simp [hA.1, hA.2]
theorem z08b (p : ByteArray) (hp : p.size ≤ 4194304) : zi3 p = some ((runL p.data.toList : Nat) : Int) := by
 have := z06s p hp p.size 0 (by omega) (by omega)
 unfold zi3
 rw [show ((0 : Int)) = ((0 : Nat) : Int) from rfl, this]
 simp
theorem zuq (s : ByteArray) : zaz s = some (decide (s.data.toList ∈ resv)) := by
 unfold zaz
 simp only [Go.ByteArray.toList_eq]
 generalize s.data.toList = l
 by_cases hm : l ∈ resv
 ·have hm2 := hm
  unfold resv at hm2
  simp only [List.mem_cons, List.not_mem_nil, or_false] at hm2
  rcases hm2 with rfl | rfl | rfl | rfl | rfl | rfl | rfl | rfl | rfl | rfl | rfl | rfl | rfl | rfl | rfl | rfl
  all_goals rfl
 ·have hm2 := hm
  unfold resv at hm2
  simp only [List.mem_cons, List.not_mem_nil, or_false, not_or] at hm2
  obtain ⟨h0, h1, h2, h3, h4, h5, h6, h7, h8, h9, h10, h11, h12, h13, h14, h15⟩ := hm2
  simp only [hm, decide_false, beq_iff_eq, h0, h1, h2, h3, h4, h5, h6, h7, h8, h9, h10, h11, h12, h13, h14, h15, if_false]
theorem z03y (s : ByteArray) (hp : s.size ≤ 12) : zd2 s = some (⟨if s.data.toList ∈ resv then 4 else 1, s, 0, 0⟩, 0) := by
 unfold zd2
 rw [if_neg (by simp; omega), zuq]
 by_cases hm : s.data.toList ∈ resv <;> simp [hm]
theorem z06t (l : Bs) (c : UInt8) : (0 ≤ Lib.indexByte l c) ↔ c ∈ l := by
 induction l with
 | nil => simp [Lib.indexByte]
 | cons b r ih =>
  simp only [Lib.indexByte]
  have hge := Lib.indexByte_ge r c
  by_cases hb : (b == c) = true
  ·simp [(beq_iff_eq.mp hb).symm]
  ·have hb' : ¬ b = c := by simpa using hb
   simp only [hb, Bool.false_eq_true, if_false]
   by_cases hr : (Lib.indexByte r c == -1) = true
   ·simp only [hr, if_true]
    have : ¬ (0 ≤ Lib.indexByte r c) := by have := beq_iff_eq.mp hr; omega
    have : ¬ c ∈ r := fun h => this (ih.mpr h)
    simp [this, Ne.symm hb']
   ·simp only [hr, Bool.false_eq_true, if_false]
    have : ¬ Lib.indexByte r c = -1 := by simpa using hr
    have h2 : c ∈ r := ih.mp (by omega)
    simp [h2]; omega
theorem z08c (b : UInt8) : ((b.toNat : Int)).toNat.toUInt8 = b := by simp

theorem zxj (l : Bs) (c : UInt8) : ∃ z, zq3 ⟨l.toArray⟩ (c.toNat : Int) = some z ∧ (decide (z ≥ 0) = decide (c ∈ l)) := by
 refine ⟨_, rfl, ?_⟩
 rw [z08c]
 exact decide_eq_decide.mpr (z06t l c)
theorem z06u (p : ByteArray) (h0 : 0 < p.size) : zhb p = some ((zce p.data.toList : Nat) : Int) := by
 have hl0 : 0 < p.data.toList.length := by rw [z3e]; omega
 have hb0 := za6 p 0 hl0
 have e0 : p.data.toList.head? = some (p.data.toList[0]) := by rw [List.head?_eq_getElem?]; exact List.getElem?_eq_getElem hl0
 generalize p.data.toList[0] = a at e0 hb0
 obtain ⟨z1, hz1, hd1⟩ := zxj ones a
 obtain ⟨z2, hz2, hd2⟩ := zxj twos a
 have ho : (p.data.toList.head? ∈ ones.map some) ↔ a ∈ ones := by rw [e0]; simp
 have ht : (p.data.toList.head? ∈ twos.map some) ↔ a ∈ twos := by rw [e0]; simp
 have hS : zce p.data.toList = if (p.data.toList[1]? = some 61 ∧ a ∈ twos) then 2 else if a ∈ ones then 1 else 0 := by
  unfold zce; simp only [ht, ho]
 rw [hS]
 unfold zhb
 have hz1 : zq3 (ByteArray.mk #[123, 125, 40, 41, 59, 44, 46, 61, 60, 62, 43, 45, 42, 47, 37]) (a.toNat : Int) = some z1 := hz1
 have hz2 : zq3 (ByteArray.mk #[61, 33, 60, 62]) (a.toNat : Int) = some z2 := hz2
 have hb0 : bidx p 0 = some (a.toNat : Int) := hb0
 simp only [hb0, Option.bind_eq_bind, Option.bind_some, hz1, hz2, hd1, hd2]
 by_cases h1 : 1 < p.size
 ·have hl1 : 1 < p.data.toList.length := by rw [z3e]; omega
  have hb1 := za6 p 1 hl1
  have e1 : p.data.toList[1]? = some (p.data.toList[1]) := List.getElem?_eq_getElem hl1
  generalize p.data.toList[1] = c at e1 hb1
  have hb1 : bidx p 1 = some (c.toNat : Int) := hb1
  have hc61 : ((c.toNat : Int) == 61) = decide (c = 61) := by
   by_cases hc : c = 61
   ·subst hc; rfl
   ·have : ¬ ((c.toNat : Int) = 61) := by intro h; apply hc; apply UInt8.toNat_inj.mp; have : (61 : UInt8).toNat = 61 := rfl; omega
    simp [hc, this]
  have hgt : (decide ((p.size : Int) > 1)) = true := by simp; omega
  rw [e1]
  simp only [hgt, if_true, hb1, Option.bind_some, hc61]
  by_cases hc : c = 61 <;> by_cases hm : a ∈ twos <;> by_cases hn : a ∈ ones <;> simp [hc, hm, hn]
 ·have e1 : p.data.toList[1]? = none := List.getElem?_eq_none (by rw [z3e]; omega)
  have hgt : (decide ((p.size : Int) > 1)) = false := by simp; omega
  rw [e1]
  simp only [hgt]
  by_cases hn : a ∈ ones <;> simp [hn]
/-! ### lex.number -/
theorem z002 (b : UInt8) : digs.contains b = isD b := by
 rw [Bool.eq_iff_iff]
 constructor
 ·intro h
  have h : b ∈ digs := by simpa using h
  unfold digs at h
  simp only [List.mem_cons, List.not_mem_nil, or_false] at h
  rcases h with rfl | rfl | rfl | rfl | rfl | rfl | rfl | rfl | rfl | rfl <;> rfl
 ·intro h
  simp only [isD, Bool.and_eq_true, decide_eq_true_eq] at h
  have h2 : b.toNat = 48 ∨ b.toNat = 49 ∨ b.toNat = 50 ∨ b.toNat = 51 ∨ b.toNat = 52 ∨ b.toNat = 53 ∨ b.toNat = 54 ∨ b.toNat = 55 ∨ b.toNat = 56 ∨ b.toNat = 57 := by omega
  have e : ∀ n, b.toNat = n → b = UInt8.ofNat n := fun n h => by rw [← h]; simp
  rcases h2 with h | h | h | h | h | h | h | h | h | h <;> (rw [e _ h]; rfl)
theorem zxk {p : UInt8 → Bool} {l : Bs} : l.dropWhile p = [] ↔ ∀ x ∈ l, p x = true := by
 induction l with
 | nil => simp
 | cons b r ih =>
  rw [List.dropWhile_cons]
  by_cases h : p b = true
  ·rw [if_pos h, ih]; simp [h]
  ·rw [if_neg h]; simp [h]
theorem zsu (l : Bs) : (Lib.trimS l digs = []) ↔ (l.all isD = true) := by
 have hp : (fun b => digs.contains b) = isD := funext z002
 unfold Lib.trimS Lib.trimLeftS Lib.trimRightS
 rw [show (digs.contains ·) = isD from hp]
 constructor
 ·intro h
  rw [zxk] at h
  have h2 : List.dropWhile isD l.reverse = [] := by
   cases hm : List.dropWhile isD l.reverse with
   | nil => rfl
   | cons x m =>
    have h3 := List.head_dropWhile_not isD (l := l.reverse) (by rw [hm]; simp)
    have h4 := h x (by rw [List.mem_reverse, hm]; simp)
    simp only [hm, List.head_cons] at h3
    rw [h4] at h3; cases h3
  rw [zxk] at h2
  exact List.all_eq_true.mpr fun x hx => h2 x (by simpa using hx)
 ·intro h
  have h1 : List.dropWhile isD l.reverse = [] := zxk.mpr fun x hx => List.all_eq_true.mp h x (by simpa using hx)
  rw [h1]; rfl
theorem z06v (l : Bs) (h : ∀ b ∈ l, isD b = true) : ∀ acc, acc ≤ 4294967295 →
  Lib.parseUintM 4294967295 acc l = if l.foldl zf6 acc ≤ 4294967295 then .ok (l.foldl zf6 acc) else .range := by
 induction l with
 | nil => intro acc ha; simp [Lib.parseUintM, ha]
 | cons c r ih =>
  intro acc ha
  have hc := h c List.mem_cons_self
  simp only [isD, Bool.and_eq_true, decide_eq_true_eq] at hc
  have hr := ih (fun x hx => h x (List.mem_cons_of_mem _ hx))
  rw [List.foldl_cons]
  simp only [Lib.parseUintM]
  rw [if_pos hc, if_neg (by omega)]
  have es : acc * 10 + (c.toNat - 48) = zf6 acc c := by unfold zf6; omega
  rw [es]
  by_cases hM : 4294967295 < zf6 acc c
  ·rw [if_pos hM, if_neg]
   have := zst r (zf6 acc c)
   have hp : 1 ≤ 10 ^ r.length := Nat.one_le_pow _ _ (by omega)
   have := Nat.mul_le_mul_left (zf6 acc c) hp
   omega
  ·rw [if_neg hM, hr _ (by omega)]
theorem zxl (c : UInt8) (r : Bs) (h : ∀ b ∈ c :: r, isD b = true) :
  Lib.parseIntB 32 (c :: r) = if dval (c :: r) ≤ 2147483647 then .ok ((dval (c :: r) : Nat) : Int) else .range := by
 have hc := h c List.mem_cons_self
 simp only [isD, Bool.and_eq_true, decide_eq_true_eq] at hc
 have hp := z06v (c :: r) h 0 (by omega)
 simp only [Lib.parseIntB]
 rw [if_neg (by omega)]
 unfold Lib.parseUintB
 rw [if_neg (by simp)]
 rw [show (2 ^ 32 - 1 : Nat) = 4294967295 from rfl, hp, ← zr0]
 generalize dval (c :: r) = v
 have h45 : ¬ (c.toNat = 45) := by omega
 by_cases h1 : v ≤ 4294967295
 ·rw [if_pos h1]
  by_cases h2 : v ≤ 2147483647
  ·rw [if_pos h2]; dsimp only; rw [if_neg (by rintro ⟨_, h⟩; omega), if_neg (by rintro ⟨h, _⟩; exact h45 h), if_neg h45]
  ·rw [if_neg h2]; dsimp only; rw [if_pos ⟨h45, by omega⟩]
 ·rw [if_neg h1, if_neg (by omega)]
theorem zsb (c : UInt8) (r : Bs) (hc : isD c = true) (h48 : c ≠ 48) (hv : dval (c :: r) ≤ 2147483647) : (c :: r).length ≤ 10 := by
 simp only [isD, Bool.and_eq_true, decide_eq_true_eq] at hc
 have h1 : c.toNat ≠ 48 := fun h => h48 (UInt8.toNat_inj.mp (by rw [h]; rfl))
 rw [zr0, List.foldl_cons] at hv
 have hg := zst r (zf6 0 c)
 have hs : 1 ≤ zf6 0 c := by unfold zf6; omega
 have h2 : 10 ^ r.length ≤ 2147483647 := by
  have := Nat.mul_le_mul_right (10 ^ r.length) hs
  omega
 have h3 : r.length < 10 := by
  refine Decidable.byContradiction fun hn => ?_
  have : 10 ^ 10 ≤ 10 ^ r.length := Nat.pow_le_pow_right (by omega) (by omega)
  have : (10 : Nat) ^ 10 = 10000000000 := by decide
  omega
 simp; omega
theorem z003 (s : ByteArray) (c : UInt8) (r : Bs) (e : s.data.toList = c :: r) (hc : isD c = true) (hs : s.size ≤ 4194304) :
  zk3 s = if zol (c :: r) then some (((dval (c :: r) : Nat) : Int), 0) else some (0, 3) := by
 have hsz : s.size = (c :: r).length := by rw [← e, z3e]
 have hb := z06r s 0 (by rw [e]; simp)
 have hb : bt s 0 = (c.toNat : Int) := by simpa [e] using hb
 have h48 : (bt s 0 = 48) ↔ c = 48 := by
  rw [hb]; constructor
  ·intro h; exact UInt8.toNat_inj.mp (by have : (48 : UInt8).toNat = 48 := rfl; omega)
  ·rintro rfl; rfl
 unfold zk3 zol
 rw [if_pos (by omega), e, hsz]
 have hh : ((c :: r).head? == some 48) = decide (c = 48) := by
  by_cases h : c = 48
  ·subst h; rfl
  ·simp [h]
 rw [hh]
 by_cases hall : (c :: r).all isD = true
 ·have ht := (zsu (c :: r)).mpr hall
  by_cases h1 : 1 < (c :: r).length ∧ c = 48
  ·rw [if_pos (.inr ⟨h1.1, h48.mpr h1.2⟩)]
   rw [if_neg]
   simp only [Bool.and_eq_true, decide_eq_true_eq, Bool.not_eq_true', Bool.and_eq_false_iff, decide_eq_false_iff_not]
   rintro ⟨⟨⟨_, h | h⟩, _⟩, _⟩
   ·exact h h1.1
   ·exact h h1.2
  ·rw [if_neg (by rintro (h | ⟨h, h'⟩); exact h ht; exact h1 ⟨h, h48.mp h'⟩), zxl c r (fun b hb => List.all_eq_true.mp hall b hb)]
   by_cases hv : dval (c :: r) ≤ 2147483647
   ·have hl : (c :: r).length ≤ 10 := by
     by_cases hz : c = 48
     ·have : ¬ 1 < (c :: r).length := fun h => h1 ⟨h, hz⟩
      omega
     ·exact zsb c r hc hz hv
    rw [if_pos hv, if_pos]
    simp only [Bool.and_eq_true, hall, decide_eq_true_eq, hv, hl, and_true, true_and, Bool.not_eq_true', Bool.and_eq_false_iff, decide_eq_false_iff_not]
    by_cases hz : c = 48
    ·left; exact fun h => h1 ⟨h, hz⟩
    ·right; exact hz
   ·rw [if_neg hv, if_neg]
    simp only [Bool.and_eq_true, decide_eq_true_eq, hv, and_false, not_false_eq_true]
 ·rw [if_pos (.inl fun h => hall ((zsu _).mp h)), if_neg]
  intro h
  simp only [Bool.and_eq_true] at h
  exact hall h.1.2

/-! ### lex.word, lex.Lex -/
theorem z06w (p : ByteArray) (b : UInt8) (r : Bs) (e : p.data.toList = b :: r) (hp : p.size ≤ 4194304) :
  match zdf (b :: r) with
  | .ok w => zdx p = some (⟨w.kind, p.extract 0 w.len, (w.num : Int), 0⟩, 0)
  | .error c => ∃ x, c ≠ 0 ∧ zdx p = some (x, c) := by
 have hsz : p.size = (b :: r).length := by rw [← e, z3e]
 have h0 : 0 < p.size := by rw [hsz]; simp
 have hb : bidx p 0 = some (b.toNat : Int) := by
  have := za6 p 0 (by rw [e]; simp)
  simpa [e] using this
 have hrun := z08b p hp
 rw [e] at hrun
 have hrl := zmv (b :: r)
 have hxl : (p.extract 0 (runL (b :: r))).data.toList = (b :: r).take (runL (b :: r)) := by rw [ext_list, e]; simp
 have hxs : (p.extract 0 (runL (b :: r))).size = runL (b :: r) := by rw [← z3e, hxl, List.length_take]; omega
 have hcut : ∀ n : Nat, n ≤ p.size → ssub p 0 (n : Int) = some (p.extract 0 n) := fun n hn => zmx (Nat.zero_le _) hn
 unfold zdx
 simp only [hb, Option.bind_eq_bind, Option.bind_some, zmy, zr1]
 rw [zbt]
 by_cases hL : isL b = true
 ·rw [if_pos hL, if_pos hL, hrun]
  simp only [Option.bind_some, hcut _ (by omega : runL (b :: r) ≤ p.size)]
  by_cases h12 : 12 < runL (b :: r)
  ·rw [if_pos h12]
   refine ⟨⟨0, ByteArray.mk #[], 0, 0⟩, by decide, ?_⟩
   unfold zd2
   rw [if_pos (by simp [hxs]; omega)]; rfl
  ·rw [if_neg h12, z03y _ (by omega), hxl]; rfl
 ·rw [if_neg hL, if_neg hL]
  by_cases hD : isD b = true
  ·have hxe : (p.extract 0 (runL (b :: r))).data.toList = b :: r.take (runL (b :: r) - 1) := by
    rw [hxl]
    have := zja (b := b) (l := r) (by simp [isA, hD])
    obtain ⟨n, hn⟩ : ∃ n, runL (b :: r) = n + 1 := ⟨runL (b :: r) - 1, by omega⟩
    rw [hn]; simp
   have hnum := z003 (p.extract 0 (runL (b :: r))) b _ hxe hD (by omega)
   rw [← hxe, hxl] at hnum
   rw [if_pos hD, if_pos hD, hrun]
   simp only [Option.bind_some, hcut _ (by omega : runL (b :: r) ≤ p.size), hnum]
   by_cases ho : zol ((b :: r).take (runL (b :: r))) = true
   ·rw [if_pos ho, if_pos ho]; rfl
   ·rw [if_neg ho, if_neg ho]; exact ⟨_, by decide, rfl⟩
  ·rw [if_neg hD, if_neg hD, z06u p h0, e]
   have hsl := zmw (b :: r)
   simp only [Option.bind_some]
   by_cases hz : zce (b :: r) = 0
   ·rw [if_pos hz, if_pos (by simp [hz])]
    exact ⟨_, by decide, rfl⟩
   ·rw [if_neg hz, if_neg (by simpa using hz), hcut _ (by omega)]; rfl
def tokT (t : Tok) : z0b := ⟨t.kind, ⟨t.text.toArray⟩, (t.num : Int), (t.at_ : Int)⟩
def finT (size : Nat) (z : List Tok × Option (Nat × Int)) : List z0b × Int × Int :=
 ((told size z).1.map tokT, (told size z).2.1, (told size z).2.2)
theorem z004 (size : Nat) (acc : List Tok) (p : Nat) (e : Int) : finT size (acc, some (p, e)) = ([], (p : Int), e) := rfl
theorem z06x (s : ByteArray) (hs : s.size ≤ 4194304) : ∀ (d i : Nat) (acc : List Tok), s.size - i = d → i ≤ s.size → acc.length ≤ i →
  (iter (zal s) ((i : Int), acc.map tokT) >>= Sum.elim (fun r => some r) (fun j1 => if (decide ((j1.length : Int) > 2000)) then (some ([], (s.size : Int), 4)) else (some (j1, 0, 0)))) = some (finT s.size (acc ++ (lexS (s.data.toList.drop i) i).1, (lexS (s.data.toList.drop i) i).2)) := by
 intro d
 induction d using Nat.strongRecOn with
 | _ d ih =>
 intro i acc hd hi ha
 by_cases hlt : i < s.size
 ·have hl : i < s.data.toList.length := by rw [z3e]; omega
  have e := List.drop_eq_getElem_cons hl
  have hb := za6 s i hl
  generalize s.data.toList[i] = b at e hb
  have hw : IntKind.i64.wrap ((i : Int) + 1) = ((i + 1 : Nat) : Int) := by rw [w64 (by omega) (by omega)]; omega
  have hs1 : (decide ((i : Int) < (s.size : Int))) = true := by simp; omega
  have h32 : ((b.toNat : Int) == 32) = (b == 32) := by
   rw [Bool.eq_iff_iff, beq_iff_eq, beq_iff_eq]
   constructor
   ·intro h; exact UInt8.toNat_inj.mp (by have : (32 : UInt8).toNat = 32 := rfl; omega)
   ·rintro rfl; rfl
  have h10 : ((b.toNat : Int) == 10) = (b == 10) := by
   rw [Bool.eq_iff_iff, beq_iff_eq, beq_iff_eq]
   constructor
   ·intro h; exact UInt8.toNat_inj.mp (by have : (10 : UInt8).toNat = 10 := rfl; omega)
   ·rintro rfl; rfl
  have hJ : (if (b == 32) = true then some true else some (b == 10)) = some (isB b) := by
   unfold isB; cases (b == 32) <;> simp
  have hbody : zal s ((i : Int), acc.map tokT) = (if isB b then some (.inl (((i + 1 : Nat) : Int), acc.map tokT)) else
    (ssub s (i : Int) (s.size : Int) >>= fun v3 => zdx v3 >>= fun v4 => if (v4.2 != 0) then (some (.inr (.inl ([], (i : Int), v4.2))))
     else (app 40 (acc.map tokT) [(z0b.mk v4.1.Kind v4.1.Text v4.1.Num (i : Int))] >>= fun v5 => some (.inl ((IntKind.i64.wrap ((i : Int) + (v4.1.Text.size : Int))), v5))))) := by
   unfold zal
   rw [if_pos hs1]
   simp only [hb, Option.bind_eq_bind, Option.bind_some, h32, h10, hw, hJ]
  rw [e]
  by_cases hB : isB b = true
  ·rw [zif _ _ hB, zcw (y := (((i + 1 : Nat) : Int), acc.map tokT)) (by rw [hbody, if_pos hB])]
   exact ih (s.size - (i + 1)) (by omega) (i + 1) acc rfl (by omega) (by omega)
  ·have hB' : isB b = false := by simpa using hB
   rw [if_neg hB, zmx (by omega) (Nat.le_refl _)] at hbody
   simp only [Option.bind_eq_bind, Option.bind_some] at hbody
   have hpl : (s.extract i s.size).data.toList = b :: s.data.toList.drop (i + 1) := by rw [zsr, e]
   have hps : (s.extract i s.size).size ≤ 4194304 := by rw [ByteArray.size_extract]; omega
   have hwd := z06w (s.extract i s.size) b _ hpl hps
   cases hw1 : zdf (b :: s.data.toList.drop (i + 1)) with
   | error c =>
    rw [hw1] at hwd
    obtain ⟨x, hc, hE⟩ := hwd
    rw [hE] at hbody
    simp only [Option.bind_some] at hbody
    rw [if_pos (by simpa using hc)] at hbody
    rw [z3x hbody, zlt hB' hw1, z004]
    rfl
   | ok w =>
    rw [hw1] at hwd
    have hlen := zhl hw1
    have hlen2 : w.len ≤ s.size - i := by
     have := hlen.2
     rw [← hpl, zsr, List.length_drop, z3e] at this
     exact this
    have hx : (s.extract i s.size).extract 0 w.len = (⟨((b :: s.data.toList.drop (i + 1)).take w.len).toArray⟩ : ByteArray) := by
     refine zss ?_
     rw [ext_list, hpl]; simp
    have hxs : ((⟨((b :: s.data.toList.drop (i + 1)).take w.len).toArray⟩ : ByteArray)).size = w.len := by
     rw [← z3e]; simp only [List.length_take]
     omega
    have hd2 : (b :: s.data.toList.drop (i + 1)).drop w.len = s.data.toList.drop (i + w.len) := by
     rw [← e, List.drop_drop]
    rw [hwd] at hbody
    simp only [Option.bind_some] at hbody
    rw [if_neg (by simp), z6m (by simp; omega)] at hbody
    simp only [Option.bind_some] at hbody
    rw [hx, hxs, w64 (by omega) (by omega)] at hbody
    have IH := ih (s.size - (i + w.len)) (by omega) (i + w.len) (acc ++ [(⟨w.kind, (b :: s.data.toList.drop (i + 1)).take w.len, w.num, i⟩ : Tok)]) rfl (by omega) (by simp; omega)
    rw [zcw hbody, zqp hB' hw1, hd2]
    simp only [List.map_append, List.map_cons, List.map_nil, List.append_assoc, List.cons_append, List.nil_append] at IH
    rw [← show (((i + w.len : Nat) : Int)) = (i : Int) + (w.len : Int) by push_cast; rfl]
    exact IH
 ·have hie : i = s.size := by omega
  have hnil : s.data.toList.drop i = [] := List.drop_of_length_le (by rw [z3e]; omega)
  rw [hnil, zmm]
  rw [z3x (r := .inr (acc.map tokT)) (by unfold zal; rw [if_neg (by simp; omega)])]
  simp only [List.append_nil, finT, told, List.length_map, Option.bind_eq_bind, Option.bind_some, Sum.elim_inr]
  by_cases h2 : 2000 < acc.length
  ·rw [if_pos (by simp; omega), if_pos h2]; rfl
  ·rw [if_neg (by simp; omega), if_neg h2]
theorem z08a (s : ByteArray) (hs : s.size ≤ 4194304) : zgf s = some (finT s.size (lexS s.data.toList 0)) := by
 have := z06x s hs s.size 0 [] (by omega) (by omega) (by simp)
 unfold zgf
 simpa using this
end Go.Proofs.YtokjbpmjdcbogaaGreatDoor.Abs
/- What the writer puts, in plain words: words, whether something can't be, whether it is too deep. -/
namespace Go.Proofs.YtokjbpmjdcbogaaGreatDoor.Abs.Wri
open Go Go.RowKit
set_option linter.unusedVariables false
set_option linter.unusedSimpArgs false
/-! ### With as much fuel as is enough -/
def Sn {α : Type} (n h : Nat) (x : Option α) (r : α) : Prop := x = some r ∨ (x = none ∧ n < h)
theorem Sn.pure {α : Type} {n h : Nat} {x : Option α} {r : α} (e : x = some r) : Sn n h x r := .inl e
theorem Sn.mono {α : Type} {n h h' : Nat} {x : Option α} {r : α} (s : Sn n h x r) (hh : h ≤ h') : Sn n h' x r := s.imp id fun ⟨a, b⟩ => ⟨a, by omega⟩
theorem Sn.bind {α β : Type} {n h : Nat} {x : Option α} {f : α → Option β} {r : α} {t : β} (s : Sn n h x r) (k : Sn n h (f r) t) : Sn n h (x >>= f) t := by
 rcases s with rfl | ⟨rfl, hn⟩
 ·exact k
 ·exact .inr ⟨rfl, hn⟩
theorem Sn.up {α : Type} {n h : Nat} {x : Option α} {r : α} (s : Sn n h x r) : Sn (n + 1) (h + 1) x r := s.imp id fun ⟨a, b⟩ => ⟨a, by omega⟩
theorem Sn.unf {α : Type} {f : Nat → Option α} {r : α} {h : Nat} (s : ∀ n, Sn n h (f n) r) : unf f = some r := by
 refine z00o h ?_ fun m t hm => ?_
 ·rcases s h with e | ⟨_, e⟩
  ·exact e
  ·omega
 ·rcases s m with e | ⟨e, _⟩
  ·rw [hm] at e; exact Option.some.inj e
  ·rw [hm] at e; cases e
/-! ### What is put -/
structure Wr where
 ws : List ByteArray
 bad : Bool
 dp : Bool
def Wr.app (x y : Wr) : Wr := ⟨x.ws ++ y.ws, x.bad || y.bad, x.dp || y.dp⟩
instance : Append Wr := ⟨Wr.app⟩
theorem Wr.app_def (x y : Wr) : x ++ y = ⟨x.ws ++ y.ws, x.bad || y.bad, x.dp || y.dp⟩ := rfl
@[simp] theorem Wr.ws_app (x y : Wr) : (x ++ y).ws = x.ws ++ y.ws := rfl
@[simp] theorem Wr.bad_app (x y : Wr) : (x ++ y).bad = (x.bad || y.bad) := rfl
@[simp] theorem Wr.dp_app (x y : Wr) : (x ++ y).dp = (x.dp || y.dp) := rfl
def Wr.nil : Wr := ⟨[], false, false⟩
/-- Words. -/
def wW (l : List ByteArray) : Wr := ⟨l, false, false⟩
/-- What must be. -/
def wM (ok : Bool) : Wr := ⟨[], !ok, false⟩
/-- A depth. -/
def wD (q : Int) : Wr := ⟨[], false, decide (q > 24)⟩
/-- Is it one name? -/
def z2v (s : ByteArray) : Bool :=
 let v := finT s.size (lexS s.data.toList 0)
 v.2.2 == 0 && (v.1.length : Int) == 1 && (match v.1 with | t :: _ => t.Kind == 1 && t.Text.toList == s.toList | [] => false)
def za0 (n : Int) : Bool := decide (n ≥ 0) && decide (n ≤ 2147483647)
def wN (s : ByteArray) : Wr := ⟨[s], !z2v s, false⟩
def wI (n : Int) : Wr := ⟨[ze1 n], !za0 n, false⟩
/-! ### Expressions -/
mutual
def szE : z03 → Nat
 | ⟨_, _, _, l⟩ => 1 + szEs l
def szEs : List z03 → Nat
 | [] => 0
 | e :: r => szE e + szEs r
end
def sumK (k : Int) : Bool := k == 4 || k == 5
def z6o (k : Int) : Bool := decide (k ≥ 4) && decide (k ≤ 8)
def zl0 (k : Int) : ByteArray := match k with
 | 4 => ByteArray.mk #[43] | 5 => ByteArray.mk #[45] | 6 => ByteArray.mk #[42] | 7 => ByteArray.mk #[47] | _ => ByteArray.mk #[37]
theorem z005 {k : Int} (h : z6o k = true) : idx [(ByteArray.mk #[43]), (ByteArray.mk #[45]), (ByteArray.mk #[42]), (ByteArray.mk #[47]), (ByteArray.mk #[37])] (IntKind.i64.wrap (k - 4)) = some (zl0 k) := by
 unfold z6o at h
 simp only [Bool.and_eq_true, decide_eq_true_eq] at h
 have : k = 4 ∨ k = 5 ∨ k = 6 ∨ k = 7 ∨ k = 8 := by omega
 rcases this with rfl | rfl | rfl | rfl | rfl <;> rfl
def zcs (e : z03) : Wr := wM ((e.Kids.length : Int) == 0) ++ (if e.Kind == 1 then wI e.Num else wM (e.Kind == 2) ++ wN e.Name)
/-- A kid, in ( and ), if it must. -/
def inP (must : Bool) (f : Int → Wr) (p : Int) : Wr := if must then wW [(ByteArray.mk #[40])] ++ (wD (p + 1) ++ (f (p + 1) ++ wW [(ByteArray.mk #[41])])) else f p
def sE (e : z03) (p : Int) : Wr :=
 match e with
 | ⟨k, n, s, [x]⟩ => if k == 3 then wW [(ByteArray.mk #[45])] ++ (wD (p + 1) ++ inP (z6o x.Kind) (sE x) (p + 1)) else zcs ⟨k, n, s, [x]⟩
 | ⟨k, n, s, [l, r]⟩ => if z6o k then inP (!sumK k && sumK l.Kind) (sE l) p ++ (wW [zl0 k] ++ inP (sumK r.Kind || (!sumK k && z6o r.Kind)) (sE r) p) else zcs ⟨k, n, s, [l, r]⟩
 | ⟨k, n, s, l⟩ => zcs ⟨k, n, s, l⟩
theorem zr2 (m : Bool) (f : Int → Wr) (p : Int) (c : Nat) (h : ∀ q, (f q).ws.length ≤ c) : (inP m f p).ws.length ≤ c + 2 := by
 unfold inP
 split
 ·have := h (p + 1); simp [wW, wD]; omega
 ·have := h p; omega
theorem zho (e : z03) : (zcs e).ws.length ≤ 1 := by
 unfold zcs
 split <;> simp [wM, wI, wN]
theorem zkh : ∀ (e : z03) (p : Int), (sE e p).ws.length ≤ 5 * szE e
 | ⟨k, n, s, []⟩, p => by
  have := zho ⟨k, n, s, []⟩
  simp only [sE, szE, szEs]; omega
 | ⟨k, n, s, [x]⟩, p => by
  have := zho ⟨k, n, s, [x]⟩
  simp only [sE, szE, szEs]
  split
  ·have := zr2 (z6o x.Kind) (sE x) (p + 1) (5 * szE x) (zkh x)
   simp [wW, wD]; omega
  ·omega
 | ⟨k, n, s, [l, r]⟩, p => by
  have := zho ⟨k, n, s, [l, r]⟩
  simp only [sE, szE, szEs]
  split
  ·have := zr2 (!sumK k && sumK l.Kind) (sE l) p (5 * szE l) (zkh l)
   have := zr2 (sumK r.Kind || (!sumK k && z6o r.Kind)) (sE r) p (5 * szE r) (zkh r)
   simp [wW]; omega
  ·omega
 | ⟨k, n, s, a :: b :: c :: l⟩, p => by
  have := zho ⟨k, n, s, a :: b :: c :: l⟩
  simp only [sE, szE, szEs]; omega
/-- Numbers and names that a walk can read. -/
def in64 (n : Int) : Prop := -9223372036854775808 ≤ n ∧ n ≤ 9223372036854775807
mutual
def okE : z03 → Prop
 | ⟨_, n, s, l⟩ => in64 n ∧ s.size ≤ 4194304 ∧ okEs l
def okEs : List z03 → Prop
 | [] => True
 | e :: r => okE e ∧ okEs r
end
end Go.Proofs.YtokjbpmjdcbogaaGreatDoor.Abs.Wri
/- The writer's expressions and comparisons are what WrA says. -/
namespace Go.Proofs.YtokjbpmjdcbogaaGreatDoor.Abs.Wri
open Go Go.RowKit
set_option linter.unusedVariables false
set_option linter.unusedSimpArgs false
end Go.Proofs.YtokjbpmjdcbogaaGreatDoor.Abs.Wri
/- The writer's comparisons, blocks and statements are what WrA says. -/
namespace Go.Proofs.YtokjbpmjdcbogaaGreatDoor.Abs.Wri
open Go Go.RowKit
set_option linter.unusedVariables false
set_option linter.unusedSimpArgs false
def szC (c : z2n) : Nat := 1 + szE c.L + szE c.R
def okC (c : z2n) : Prop := okE c.L ∧ okE c.R
def opOk (k : Int) : Bool := decide (k ≥ 1) && decide (k ≤ 6)
def opW (k : Int) : ByteArray := match k with
 | 1 => ByteArray.mk #[61, 61] | 2 => ByteArray.mk #[33, 61] | 3 => ByteArray.mk #[60] | 4 => ByteArray.mk #[60, 61] | 5 => ByteArray.mk #[62] | _ => ByteArray.mk #[62, 61]
theorem z06y {k : Int} (h : opOk k = true) : idx [(ByteArray.mk #[61, 61]), (ByteArray.mk #[33, 61]), (ByteArray.mk #[60]), (ByteArray.mk #[60, 61]), (ByteArray.mk #[62]), (ByteArray.mk #[62, 61])] (IntKind.i64.wrap (k - 1)) = some (opW k) := by
 unfold opOk at h
 simp only [Bool.and_eq_true, decide_eq_true_eq] at h
 have : k = 1 ∨ k = 2 ∨ k = 3 ∨ k = 4 ∨ k = 5 ∨ k = 6 := by omega
 rcases this with rfl | rfl | rfl | rfl | rfl | rfl <;> rfl
def sC (c : z2n) (p : Int) : Wr := wW [(ByteArray.mk #[40])] ++ (sE c.L p ++ ((if opOk c.Op then wW [opW c.Op] else wM false) ++ (sE c.R p ++ wW [(ByteArray.mk #[41])])))
theorem z01d (c : z2n) (p : Int) : (sC c p).ws.length ≤ 5 * szC c := by
 have h1 := zkh c.L p
 have h2 := zkh c.R p
 unfold sC szC
 split <;> simp [wW, wM] <;> omega
/-! ### Statements -/
mutual
def szS : z02 → Nat
 | .mk _ _ _ e c b l a => 4 + szE e + szC c + szL b + szL l + szA a
def szL : List z02 → Nat
 | [] => 1
 | s :: r => szS s + szL r
def szA : List z0n → Nat
 | [] => 1
 | .mk _ _ b :: r => 2 + szL b + szA r
end
mutual
def okS : z02 → Prop
 | .mk _ n t e c b l a => n.size ≤ 4194304 ∧ t.size ≤ 4194304 ∧ okE e ∧ okC c ∧ okL b ∧ okL l ∧ okA a
def okL : List z02 → Prop
 | [] => True
 | s :: r => okS s ∧ okL r
def okA : List z0n → Prop
 | [] => True
 | .mk t v b :: r => t.size ≤ 4194304 ∧ v.size ≤ 4194304 ∧ okL b ∧ okA r
end
/-- A block's words, of its statements'. -/
def inB (f : Int → Wr) (b : Int) : Wr := wW [(ByteArray.mk #[123])] ++ (wD (b + 1) ++ (f (b + 1) ++ wW [(ByteArray.mk #[125])]))
mutual
def sS : z02 → Int → Int → Wr
 | .mk k n t e c bo el ar, b, p =>
  if k == 1 then wN n ++ (wW [(ByteArray.mk #[61])] ++ (sE e p ++ wW [(ByteArray.mk #[59])]))
  else if k == 2 then wW [(ByteArray.mk #[105, 102])] ++ (sC c p ++ (inB (fun q => sL bo q p) b ++ (if el.isEmpty then Wr.nil else wW [(ByteArray.mk #[101, 108, 115, 101])] ++ inB (fun q => sL el q p) b)))
  else if k == 3 then wW [(ByteArray.mk #[119, 104, 105, 108, 101])] ++ (sC c p ++ inB (fun q => sL bo q p) b)
  else if k == 4 then wW [(ByteArray.mk #[115, 101, 110, 100])] ++ (wN n ++ (wW [(ByteArray.mk #[46])] ++ (wN t ++ (wW [(ByteArray.mk #[40])] ++ (sE e p ++ wW [(ByteArray.mk #[41]), (ByteArray.mk #[59])])))))
  else if k == 5 then wW [(ByteArray.mk #[114, 101, 99, 118])] ++ (wN n ++ (wM (!ar.isEmpty) ++ (wW [(ByteArray.mk #[123])] ++ (sA ar b p ++ wW [(ByteArray.mk #[125])]))))
  else if k == 6 then wW [(ByteArray.mk #[97, 115, 115, 101, 114, 116])] ++ (sC c p ++ wW [(ByteArray.mk #[59])])
  else if k == 7 then wW [(ByteArray.mk #[105, 110, 112, 117, 116])] ++ (wN n ++ wW [(ByteArray.mk #[59])])
  else wM false
def sL : List z02 → Int → Int → Wr
 | [], _, _ => Wr.nil
 | s :: r, b, p => sS s b p ++ sL r b p
def sA : List z0n → Int → Int → Wr
 | [], _, _ => Wr.nil
 | .mk t v bo :: r, b, p => wN t ++ (wW [(ByteArray.mk #[40])] ++ (wN v ++ (wW [(ByteArray.mk #[41])] ++ (inB (fun q => sL bo q p) b ++ sA r b p))))
end
theorem zr3 (f : Int → Wr) (b : Int) (c : Nat) (h : ∀ q, (f q).ws.length ≤ c) : (inB f b).ws.length ≤ c + 2 := by
 have := h (b + 1)
 unfold inB; simp [wW, wD]; omega
mutual
theorem z01e : ∀ (s : z02) (b p : Int), (sS s b p).ws.length ≤ 5 * szS s
 | .mk k n t e c bo el ar, b, p => by
  have h1 := zkh e p
  have h2 := z01d c p
  have h3 := zr3 (fun q => sL bo q p) b _ fun q => zlu bo q p
  have h4 := zr3 (fun q => sL el q p) b _ fun q => zlu el q p
  have h5 := zxm ar b p
  have h6 := z4y bo
  have h7 := z4y el
  have h8 := zgx ar
  simp only [sS, szS]
  split
  ·simp [wN, wW]; omega
  ·split
   ·split <;> simp [wN, wW, Wr.nil] <;> omega
   ·split
    ·simp [wN, wW]; omega
    ·split
     ·simp [wN, wW]; omega
     ·split
      ·simp [wN, wW, wM]; omega
      ·split
       ·simp [wW]; omega
       ·split
        ·simp [wN, wW]; omega
        ·simp [wM]
theorem zlu : ∀ (l : List z02) (b p : Int), (sL l b p).ws.length ≤ 5 * szL l
 | [], b, p => by simp [sL, Wr.nil]
 | s :: r, b, p => by
  have := z01e s b p
  have := zlu r b p
  simp only [sL, szL, Wr.ws_app, List.length_append]; omega
theorem zxm : ∀ (l : List z0n) (b p : Int), (sA l b p).ws.length ≤ 5 * szA l
 | [], b, p => by simp [sA, Wr.nil]
 | .mk t v bo :: r, b, p => by
  have := zr3 (fun q => sL bo q p) b _ fun q => zlu bo q p
  have := zxm r b p
  simp only [sA, szA]; simp [wN, wW]; omega
theorem z4y : ∀ l : List z02, 1 ≤ szL l
 | [] => by simp [szL]
 | s :: r => by have := z4y r; simp only [szL]; omega
theorem zgx : ∀ l : List z0n, 1 ≤ szA l
 | [] => by simp [szA]
 | .mk t v bo :: r => by simp only [szA]; omega
end
end Go.Proofs.YtokjbpmjdcbogaaGreatDoor.Abs.Wri
/- The writer's statements are what WrC says. -/
namespace Go.Proofs.YtokjbpmjdcbogaaGreatDoor.Abs.Wri
open Go Go.RowKit
set_option linter.unusedVariables false
set_option linter.unusedSimpArgs false
theorem zr4 : ∀ l : List z02, l.length ≤ szL l
 | [] => by simp
 | s :: r => by
  have := zr4 r
  have : 4 ≤ szS s := by cases s; simp only [szS]; omega
  simp only [szL, List.length_cons]; omega
theorem zqq : ∀ l : List z0n, l.length ≤ szA l
 | [] => by simp
 | .mk t v b :: r => by
  have := zqq r
  simp only [szA, List.length_cons]; omega
/-! ### Blocks -/
/-! ### Arms -/
end Go.Proofs.YtokjbpmjdcbogaaGreatDoor.Abs.Wri
/- The writer's statements, at last. -/
namespace Go.Proofs.YtokjbpmjdcbogaaGreatDoor.Abs.Wri
open Go Go.RowKit
set_option linter.unusedVariables false
set_option linter.unusedSimpArgs false
theorem zxn : ∀ {l : List z02}, okL l → ∀ s ∈ l, okS s ∧ szS s + 1 ≤ szL l
 | [], _, s, hs => by cases hs
 | x :: r, ho, s, hs => by
  simp only [okL] at ho
  have := z4y r
  rcases List.mem_cons.1 hs with rfl | hs
  ·exact ⟨ho.1, by simp only [szL]; omega⟩
  ·have := zxn ho.2 s hs
   exact ⟨this.1, by simp only [szL]; omega⟩
end Go.Proofs.YtokjbpmjdcbogaaGreatDoor.Abs.Wri
/- ast.Words, told in plain words. -/
namespace Go.Proofs.YtokjbpmjdcbogaaGreatDoor.Abs.Wri
open Go Go.RowKit
set_option linter.unusedVariables false
set_option linter.unusedSimpArgs false
def z6n {β : Type} (g : Nat → β → Wr) : Nat → List β → Wr
 | _, [] => Wr.nil
 | i, x :: r => g i x ++ z6n g (i + 1) r
def sumN {β : Type} (c : β → Nat) : List β → Nat
 | [] => 0
 | x :: r => c x + sumN c r
theorem za7 {β : Type} {g : Nat → β → Wr} {c : β → Nat} : ∀ {l : List β} {i : Nat}, (∀ i, ∀ x ∈ l, (g i x).ws.length ≤ c x) → (z6n g i l).ws.length ≤ sumN c l
 | [], i, h => by simp [z6n, Wr.nil]
 | x :: r, i, h => by
  have h1 := h i x List.mem_cons_self
  have h2 := za7 (l := r) (i := i + 1) fun i y hy => h i y (List.mem_cons_of_mem _ hy)
  simp only [z6n, sumN, Wr.ws_app, List.length_append]; omega
abbrev TP := Bool × Bool × Int × Int × List ByteArray
/-! ### Processes -/
def wVar (_ : Nat) (v : ByteArray) : Wr := wW [(ByteArray.mk #[118, 97, 114])] ++ (wN v ++ wW [(ByteArray.mk #[59])])
def sP (p : z2d) : Wr := wW [(ByteArray.mk #[112, 114, 111, 99])] ++ (wN p.Name ++ (wW [(ByteArray.mk #[123])] ++ (z6n wVar 0 p.Vars ++ (sL p.Body 0 0 ++ wW [(ByteArray.mk #[125])]))))
def szP (p : z2d) : Nat := 1 + p.Vars.length + szL p.Body
def okP (p : z2d) : Prop := p.Name.size ≤ 4194304 ∧ (∀ v ∈ p.Vars, v.size ≤ 4194304) ∧ okL p.Body
theorem zaq {β : Type} (k : Nat) : ∀ l : List β, sumN (fun _ => k) l = k * l.length
 | [] => by simp [sumN]
 | x :: r => by simp only [sumN, zaq k r, List.length_cons, Nat.mul_succ]; omega
theorem zsv (l : List ByteArray) (i : Nat) : (z6n wVar i l).ws.length ≤ 3 * l.length := by
 rw [← zaq]; exact za7 fun i x _ => by simp [wVar, wW, wN]
theorem z01f (p : z2d) : (sP p).ws.length ≤ 5 * szP p := by
 have h1 := zsv p.Vars 0
 have h2 := zlu p.Body 0 0
 unfold sP szP; simp [wW, wN]; omega
/-! ### Rules -/
def zhk (_ : Nat) (m : z35) : Wr := wI m.From ++ (wN m.Tag ++ (wI m.To ++ wW [(ByteArray.mk #[59])]))
def sR (r : z2c) : Wr := wW [(ByteArray.mk #[114, 117, 108, 101])] ++ (wN r.Chan ++ (wW [(ByteArray.mk #[123])] ++ (z6n zhk 0 r.Moves ++ wW [(ByteArray.mk #[125])])))
def szR (r : z2c) : Nat := 1 + r.Moves.length
def okR (r : z2c) : Prop := r.Chan.size ≤ 4194304 ∧ ∀ m ∈ r.Moves, in64 m.From ∧ m.Tag.size ≤ 4194304 ∧ in64 m.To
theorem zow (l : List z35) (i : Nat) : (z6n zhk i l).ws.length ≤ 4 * l.length := by
 rw [← zaq]; exact za7 fun i x _ => by simp [zhk, wW, wN, wI]
theorem zxo (r : z2c) : (sR r).ws.length ≤ 5 * szR r := by
 have h1 := zow r.Moves 0
 unfold sR szR; simp [wW, wN]; omega
/-! ### Channels -/
def kindOk (k : Int) : Bool := decide (k ≥ 0) && decide (k < 3)
def zmg (k : Int) : ByteArray := match k with
 | 0 => ByteArray.mk #[98, 108, 111, 99, 107] | 1 => ByteArray.mk #[100, 114, 111, 112] | _ => ByteArray.mk #[108, 111, 115, 115, 121]
theorem z006 {k : Int} (h : kindOk k = true) : idx [(ByteArray.mk #[98, 108, 111, 99, 107]), (ByteArray.mk #[100, 114, 111, 112]), (ByteArray.mk #[108, 111, 115, 115, 121])] k = some (zmg k) := by
 unfold kindOk at h
 simp only [Bool.and_eq_true, decide_eq_true_eq] at h
 have : k = 0 ∨ k = 1 ∨ k = 2 := by omega
 rcases this with rfl | rfl | rfl <;> rfl
def wTag (i : Nat) (t : ByteArray) : Wr := if i = 0 then wN t else wW [(ByteArray.mk #[44])] ++ wN t
def sCh (c : z24) : Wr := wW [(ByteArray.mk #[99, 104, 97, 110])] ++ (wN c.Name ++ ((if kindOk c.Kind then wW [zmg c.Kind] else wM false) ++ (wI c.Size ++ (wW [(ByteArray.mk #[102, 114, 111, 109])] ++ (wN c.From ++ (wW [(ByteArray.mk #[116, 111])] ++ (wN c.To ++ (wW [(ByteArray.mk #[123])] ++ (wM (!c.Tags.isEmpty) ++ (z6n wTag 0 c.Tags ++ wW [(ByteArray.mk #[125]), (ByteArray.mk #[59])]))))))))))
def szCh (c : z24) : Nat := 3 + c.Tags.length
def okCh (c : z24) : Prop := c.Name.size ≤ 4194304 ∧ c.From.size ≤ 4194304 ∧ c.To.size ≤ 4194304 ∧ in64 c.Size ∧ ∀ t ∈ c.Tags, t.size ≤ 4194304
theorem z03z (i : Nat) (t : ByteArray) : (wTag i t).ws.length ≤ 2 := by unfold wTag; split <;> simp [wN, wW]
theorem zsw (l : List ByteArray) (i : Nat) : (z6n wTag i l).ws.length ≤ 2 * l.length := by
 rw [← zaq]; exact za7 fun i x _ => z03z i x
theorem zr5 (c : z24) : (sCh c).ws.length ≤ 5 * szCh c := by
 have h1 := zsw c.Tags 0
 unfold sCh szCh; split <;> simp [wW, wN, wI, wM] <;> omega
end Go.Proofs.YtokjbpmjdcbogaaGreatDoor.Abs.Wri
/- ast.Words, told in plain words: channels, and all. -/
namespace Go.Proofs.YtokjbpmjdcbogaaGreatDoor.Abs.Wri
open Go Go.RowKit
set_option linter.unusedVariables false
set_option linter.unusedSimpArgs false
/-! ### All -/
def sSys (s : z18) : Wr := z6n (fun _ => sCh) 0 s.Chans ++ (z6n (fun _ => sR) 0 s.Rules ++ z6n (fun _ => sP) 0 s.Procs)
def za8 (s : z18) : Nat := sumN szCh s.Chans + sumN szR s.Rules + sumN szP s.Procs
def zqs (s : z18) : Prop := (∀ c ∈ s.Chans, okCh c) ∧ (∀ c ∈ s.Rules, okR c) ∧ (∀ c ∈ s.Procs, okP c)
def endW (x : Wr) : List ByteArray × Int := if x.bad then ([], 5) else if x.dp then ([], 6) else if 2000 < x.ws.length then ([], 4) else (x.ws, 0)
theorem zav {β : Type} {c : β → Nat} : ∀ {l : List β} {x : β}, x ∈ l → c x ≤ sumN c l
 | y :: r, x, h => by
  rcases List.mem_cons.1 h with rfl | h
  ·simp only [sumN]; omega
  ·have := zav (c := c) h; simp only [sumN]; omega
theorem zau {β : Type} {c : β → Nat} (h : ∀ x, 1 ≤ c x) : ∀ (l : List β), l.length ≤ sumN c l
 | [] => by simp
 | x :: r => by have := zau h r; have := h x; simp only [sumN, List.length_cons]; omega
theorem ze4 {β : Type} (k : Nat) (c : β → Nat) : ∀ (l : List β), sumN (fun x => k * c x) l = k * sumN c l
 | [] => by simp [sumN]
 | x :: r => by simp only [sumN, ze4 k c r, Nat.mul_add]
theorem z007 (s : z18) : (sSys s).ws.length ≤ 5 * za8 s := by
 have h1 := za7 (g := fun _ => sCh) (c := fun x => 5 * szCh x) (l := s.Chans) (i := 0) fun i x _ => zr5 x
 have h2 := za7 (g := fun _ => sR) (c := fun x => 5 * szR x) (l := s.Rules) (i := 0) fun i x _ => zxo x
 have h3 := za7 (g := fun _ => sP) (c := fun x => 5 * szP x) (l := s.Procs) (i := 0) fun i x _ => z01f x
 rw [ze4] at h1 h2 h3
 unfold sSys za8; simp only [Wr.ws_app, List.length_append]; omega
end Go.Proofs.YtokjbpmjdcbogaaGreatDoor.Abs.Wri
/- No word is long. -/
namespace Go.Proofs.YtokjbpmjdcbogaaGreatDoor.Abs.Wri
open Go Go.RowKit
set_option linter.unusedVariables false
set_option linter.unusedSimpArgs false
def Sm (x : Wr) : Prop := ∀ w ∈ x.ws, w.size ≤ 4194304
theorem Sm.app {x y : Wr} (h : Sm x) (k : Sm y) : Sm (x ++ y) := fun w hw => by
 rcases List.mem_append.1 hw with hw | hw
 ·exact h w hw
 ·exact k w hw
theorem zxp : Sm Wr.nil := fun w hw => by cases hw
theorem sm_M (b : Bool) : Sm (wM b) := fun w hw => by cases hw
theorem sm_D (q : Int) : Sm (wD q) := fun w hw => by cases hw
theorem sm_N {s : ByteArray} (h : s.size ≤ 4194304) : Sm (wN s) := fun w hw => by
 simp only [wN, List.mem_singleton] at hw; rw [hw]; exact h
theorem sm_I {n : Int} (h : in64 n) : Sm (wI n) := fun w hw => by
 simp only [wI, List.mem_singleton] at hw
 rw [hw]
 have := Lib.itoa_length_le n h.1 h.2
 have e : (ze1 n).size = (Lib.itoa n).length := by rw [← z3e]; rfl
 omega
theorem sm_1 {s : ByteArray} (h : s.size ≤ 4194304) : Sm (wW [s]) := fun w hw => by
 simp only [wW, List.mem_singleton] at hw; rw [hw]; exact h
theorem sm_2 {s t : ByteArray} (h : s.size ≤ 4194304) (k : t.size ≤ 4194304) : Sm (wW [s, t]) := fun w hw => by
 simp only [wW, List.mem_cons, List.not_mem_nil, or_false] at hw
 rcases hw with rfl | rfl
 ·exact h
 ·exact k
theorem z008 (k : Int) : (zl0 k).size ≤ 4194304 := by unfold zl0; split <;> decide
theorem z06z (k : Int) : (opW k).size ≤ 4194304 := by unfold opW; split <;> decide
theorem zmz {e : z03} (hn : in64 e.Num) (hs : e.Name.size ≤ 4194304) : Sm (zcs e) := by
 unfold zcs
 refine (sm_M _).app ?_
 split
 ·exact sm_I hn
 ·exact (sm_M _).app (sm_N hs)
theorem zxq {m : Bool} {f : Int → Wr} (h : ∀ q, Sm (f q)) (p : Int) : Sm (inP m f p) := by
 unfold inP
 split
 ·exact (sm_1 (by decide)).app ((sm_D _).app ((h _).app (sm_1 (by decide))))
 ·exact h p
theorem sm_E : ∀ (e : z03), okE e → ∀ p, Sm (sE e p)
 | ⟨k, n, s, []⟩, h, p => by
  simp only [okE] at h
  simp only [sE]
  exact zmz h.1 h.2.1
 | ⟨k, n, s, [x]⟩, h, p => by
  simp only [okE, okEs] at h
  simp only [sE]
  split
  ·exact (sm_1 (by decide)).app ((sm_D _).app (zxq (sm_E x h.2.2.1) _))
  ·exact zmz h.1 h.2.1
 | ⟨k, n, s, [l, r]⟩, h, p => by
  simp only [okE, okEs] at h
  simp only [sE]
  split
  ·exact (zxq (sm_E l h.2.2.1) _).app ((sm_1 (z008 _)).app (zxq (sm_E r h.2.2.2.1) _))
  ·exact zmz h.1 h.2.1
 | ⟨k, n, s, a :: b :: c :: l⟩, h, p => by
  simp only [okE] at h
  simp only [sE]
  exact zmz h.1 h.2.1
theorem sm_C {c : z2n} (h : okC c) (p : Int) : Sm (sC c p) := by
 unfold sC
 refine (sm_1 (by decide)).app ((sm_E _ h.1 p).app (Sm.app ?_ ((sm_E _ h.2 p).app (sm_1 (by decide)))))
 split
 ·exact sm_1 (z06z _)
 ·exact sm_M _
theorem zxr {f : Int → Wr} (h : ∀ q, Sm (f q)) (b : Int) : Sm (inB f b) := (sm_1 (by decide)).app ((sm_D _).app ((h _).app (sm_1 (by decide))))
mutual
theorem sm_S : ∀ (s : z02), okS s → ∀ b p, Sm (sS s b p)
 | .mk k n t e c bo el ar, h, b, p => by
  simp only [okS] at h
  obtain ⟨on, ot, oe, oc, ob, oel, oar⟩ := h
  have hB : Sm (inB (fun q => sL bo q p) b) := zxr (fun q => sm_L bo ob q p) b
  have hL : Sm (inB (fun q => sL el q p) b) := zxr (fun q => sm_L el oel q p) b
  have hA := sm_A ar oar b p
  have hE := sm_E e oe p
  have hC := sm_C oc p
  simp only [sS]
  split
  ·exact (sm_N on).app ((sm_1 (by decide)).app (hE.app (sm_1 (by decide))))
  ·split
   ·refine (sm_1 (by decide)).app (hC.app (hB.app ?_))
    split
    ·exact zxp
    ·exact (sm_1 (by decide)).app hL
   ·split
    ·exact (sm_1 (by decide)).app (hC.app hB)
    ·split
     ·exact (sm_1 (by decide)).app ((sm_N on).app ((sm_1 (by decide)).app ((sm_N ot).app ((sm_1 (by decide)).app (hE.app (sm_2 (by decide) (by decide)))))))
     ·split
      ·exact (sm_1 (by decide)).app ((sm_N on).app ((sm_M _).app ((sm_1 (by decide)).app (hA.app (sm_1 (by decide))))))
      ·split
       ·exact (sm_1 (by decide)).app (hC.app (sm_1 (by decide)))
       ·split
        ·exact (sm_1 (by decide)).app ((sm_N on).app (sm_1 (by decide)))
        ·exact sm_M _
theorem sm_L : ∀ (l : List z02), okL l → ∀ b p, Sm (sL l b p)
 | [], h, b, p => by simp only [sL]; exact zxp
 | s :: r, h, b, p => by
  simp only [okL] at h
  simp only [sL]
  exact (sm_S s h.1 b p).app (sm_L r h.2 b p)
theorem sm_A : ∀ (l : List z0n), okA l → ∀ b p, Sm (sA l b p)
 | [], h, b, p => by simp only [sA]; exact zxp
 | .mk t v bo :: r, h, b, p => by
  simp only [okA] at h
  have hB : Sm (inB (fun q => sL bo q p) b) := zxr (fun q => sm_L bo h.2.2.1 q p) b
  simp only [sA]
  exact (sm_N h.1).app ((sm_1 (by decide)).app ((sm_N h.2.1).app ((sm_1 (by decide)).app (hB.app (sm_A r h.2.2.2 b p)))))
end
end Go.Proofs.YtokjbpmjdcbogaaGreatDoor.Abs.Wri
/- The statements' own systems, turned to the program's. -/
namespace Go.Proofs.YtokjbpmjdcbogaaGreatDoor.Abs.Wri
open Go Go.RowKit
set_option linter.unusedVariables false
set_option linter.unusedSimpArgs false
theorem z040 {β γ O : Type} {body : Int × List γ → Option (Sum (Int × List γ) (Sum O (List γ)))} {n H : Nat} (f : β → γ) (a1 : List β) (hlen : a1.length ≤ 400000000000)
  (hs : ∀ (i : Nat) x acc, i < a1.length → idx a1 (i : Int) = some x → x ∈ a1 → acc.length = i → IntKind.i64.wrap ((i : Int) + 1) = ((i + 1 : Nat) : Int) → Sn n H (body ((i : Int), acc)) (.inl (((i + 1 : Nat) : Int), acc ++ [f x])))
  (he : ∀ acc, body ((a1.length : Int), acc) = some (.inr (.inr acc))) :
  ∀ (l : List β) (i : Nat) (acc : List γ), a1.drop i = l → i ≤ a1.length → acc.length = i → Sn n H (iter body ((i : Int), acc)) (.inr (acc ++ l.map f)) := by
 intro l
 induction l with
 | nil =>
  intro i acc hd hi ha
  have : i = a1.length := by have := List.drop_eq_nil_iff.1 hd; omega
  subst this
  exact .inl (by rw [z3x (he acc)]; simp)
 | cons s r ih =>
  intro i acc hd hi ha
  have hlt : i < a1.length := by
   refine Nat.lt_of_not_le fun h => ?_
   rw [List.drop_of_length_le h] at hd; cases hd
  rw [List.drop_eq_getElem_cons hlt] at hd
  injection hd with h1 h2
  have hi2 : idx a1 (i : Int) = some s := by rw [zf3 hlt, h1]
  have hw : IntKind.i64.wrap ((i : Int) + 1) = ((i + 1 : Nat) : Int) := by rw [w64 (by omega) (by omega)]; omega
  have hm : s ∈ a1 := by rw [← h1]; exact List.getElem_mem hlt
  have h3 := hs i s acc hlt hi2 hm ha hw
  have h4 := ih (i + 1) (acc ++ [f s]) h2 hlt (by simp; omega)
  rw [z7m]
  refine Sn.bind h3 ?_
  simpa using h4
theorem zjb {β γ O : Type} {body : Int × List γ → Option (Sum (Int × List γ) (Sum O (List γ)))} {n H : Nat} (f : β → γ) (a1 : List β) (hlen : a1.length ≤ 400000000000)
  (hs : ∀ (i : Nat) x acc, i < a1.length → idx a1 (i : Int) = some x → x ∈ a1 → acc.length = i → IntKind.i64.wrap ((i : Int) + 1) = ((i + 1 : Nat) : Int) → Sn n H (body ((i : Int), acc)) (.inl (((i + 1 : Nat) : Int), acc ++ [f x])))
  (he : ∀ acc, body ((a1.length : Int), acc) = some (.inr (.inr acc))) : Sn n H (iter body (0, [])) (.inr (a1.map f)) := by
 have := z040 f a1 hlen hs he a1 0 [] rfl (by omega) rfl
 simpa using this
theorem zf7 {β γ O : Type} {body : Int × List γ → Option (Sum (Int × List γ) (Sum O (List γ)))} (f : β → γ) (a1 : List β) (hlen : a1.length ≤ 400000000000)
  (hs : ∀ (i : Nat) x acc, i < a1.length → idx a1 (i : Int) = some x → x ∈ a1 → acc.length = i → IntKind.i64.wrap ((i : Int) + 1) = ((i + 1 : Nat) : Int) → body ((i : Int), acc) = some (.inl (((i + 1 : Nat) : Int), acc ++ [f x])))
  (he : ∀ acc, body ((a1.length : Int), acc) = some (.inr (.inr acc))) : iter body (0, []) = some (.inr (a1.map f)) := by
 rcases zjb (n := 0) (H := 0) f a1 hlen (fun i x acc h1 h2 h3 h4 h5 => .inl (hs i x acc h1 h2 h3 h4 h5)) he with h | ⟨_, h⟩
 ·exact h
 ·omega
/-! ### Expressions -/
mutual
def cE : z09 → z03
 | ⟨k, n, s, l⟩ => ⟨k, n, s, cEs l⟩
def cEs : List z09 → List z03
 | [] => []
 | e :: r => cE e :: cEs r
end
theorem zxs : ∀ l, cEs l = l.map cE
 | [] => rfl
 | e :: r => by simp only [cEs, List.map_cons, zxs r]
theorem z8i (e : z03) : 1 ≤ szE e := by cases e; simp only [szE]; omega
theorem zsx : ∀ {l : List z09} {x : z09}, x ∈ l → szE (cE x) ≤ szEs (cEs l)
 | y :: r, x, h => by
  rcases List.mem_cons.1 h with rfl | h
  ·simp only [cEs, szEs]; omega
  ·have := zsx h; simp only [cEs, szEs]; omega
theorem zsy : ∀ l : List z09, l.length ≤ szEs (cEs l)
 | [] => by simp
 | e :: r => by have := zsy r; have := z8i (cE e); simp only [cEs, szEs, List.length_cons]; omega
theorem cvE : ∀ (N : Nat) (e : z09), szE (cE e) ≤ N → N ≤ 400000000000 → ∀ n, Sn n (szE (cE e)) (z8l n e) (cE e) := by
 intro N
 induction N with
 | zero => intro e he; have := z8i (cE e); omega
 | succ N ih =>
  intro e he hN n
  obtain ⟨k, m, s, l⟩ := e
  simp only [cE, szE] at he ⊢
  cases n with
  | zero => exact .inr ⟨rfl, by omega⟩
  | succ n =>
   have hl := zsy l
   have h := zjb (n := n) (H := szEs (cEs l)) (body := zam (z8l n) ⟨k, m, s, l⟩) cE l (by omega)
    (fun i x acc hi hx hm ha hw => by
     unfold zam
     rw [if_pos (by simpa using hi)]
     simp only [hx, Option.bind_eq_bind, Option.bind_some, hw]
     have hz := zsx hm
     refine Sn.bind (f := _) ((ih x (by omega) (by omega) n).mono hz) (.inl ?_)
     rw [z6m (by simp; omega)]
     rfl)
    (fun acc => by unfold zam; rw [if_neg (by simp)])
   have t2 := (Sn.bind (f := Sum.elim (fun _ => none) (fun j1 => some (z03.mk k m s j1))) h (.inl (by rw [← zxs]; rfl : _ = some (z03.mk k m s (cEs l))))).up
   exact t2.mono (by omega)
theorem zr6 {e : z09} (h : szE (cE e) ≤ 400000000000) : zhe e = some (cE e) := Sn.unf fun n => cvE _ e (Nat.le_refl _) h n
def cC (c : z3z) : z2n := ⟨c.Op, cE c.L, cE c.R⟩
theorem z041 {c : z3z} (h : szC (cC c) ≤ 400000000000) : zhf c = some (cC c) := by
 unfold szC cC at h
 simp only at h
 unfold zhf
 rw [zr6 (e := c.L) (by omega), zr6 (e := c.R) (by omega)]
 rfl
/-! ### Statements -/
mutual
def cS : z05 → z02
 | .mk k n t e c b l a => .mk k n t (cE e) (cC c) (cL b) (cL l) (cA a)
def cL : List z05 → List z02
 | [] => []
 | s :: r => cS s :: cL r
def cA : List z2h → List z0n
 | [] => []
 | .mk t v b :: r => .mk t v (cL b) :: cA r
end
def cArm (x : z2h) : z0n := .mk x.Tag x.Var (cL x.Body)
theorem zox : ∀ l, cL l = l.map cS
 | [] => rfl
 | e :: r => by simp only [cL, List.map_cons, zox r]
theorem zoy : ∀ l, cA l = l.map cArm
 | [] => rfl
 | .mk t v b :: r => by simp only [cA, List.map_cons, zoy r]; rfl
theorem z01g : ∀ {l : List z05} {x : z05}, x ∈ l → szS (cS x) + 1 ≤ szL (cL l)
 | y :: r, x, h => by
  have := z4y (cL r)
  rcases List.mem_cons.1 h with rfl | h
  ·simp only [cL, szL]; omega
  ·have := z01g h; simp only [cL, szL]; omega
theorem z01h : ∀ {l : List z2h} {x : z2h}, x ∈ l → szL (cL x.Body) ≤ szA (cA l)
 | .mk t v b :: r, x, h => by
  rcases List.mem_cons.1 h with rfl | h
  ·simp only [cA, szA]; show szL (cL b) ≤ _; omega
  ·have := z01h h; simp only [cA, szA]; omega
theorem zsz : ∀ l : List z05, l.length ≤ szL (cL l) := fun l => by
 have := zr4 (cL l)
 rw [zox, List.length_map] at this
 rw [zox]; exact this
theorem zoz : ∀ l : List z2h, l.length ≤ szA (cA l) := fun l => by
 have := zqq (cA l)
 rw [zoy, List.length_map] at this
 rw [zoy]; exact this
theorem cvL : ∀ (N : Nat) (l : List z05), szL (cL l) ≤ N → N ≤ 400000000000 → ∀ n, Sn n (szL (cL l)) (z6a n l) (cL l) := by
 intro N
 induction N with
 | zero => intro l hl; have := z4y (cL l); omega
 | succ N ih =>
  intro l hl hN n
  cases n with
  | zero => exact .inr ⟨rfl, z4y _⟩
  | succ n =>
   have hll := zsz l
   have hp := z4y (cL l)
   have h := zjb (n := n) (H := szL (cL l) - 1) (body := z9r (z6a n) l) cS l (by omega)
    (fun i x acc hi hx hm ha hw => by
     obtain ⟨k, nm, tg, e, c, bo, el, ar⟩ := x
     have hz := z01g hm
     simp only [cS, szS] at hz
     have p1 := z4y (cL bo)
     have p2 := z4y (cL el)
     have p3 := zgx (cA ar)
     unfold z9r
     rw [if_pos (by simpa using hi)]
     simp only [hx, Option.bind_eq_bind, Option.bind_some, hw]
     dsimp only [z05.Kind, z05.Name, z05.Tag, z05.E, z05.C, z05.Body, z05.Else, z05.Arms]
     rw [zr6 (e := e) (by omega), z041 (c := c) (by omega)]
     simp only [Option.bind_some]
     have har := zjb (n := n) (H := szL (cL l) - 1) (body := z9q (z6a n) (.mk k nm tg e c bo el ar)) cArm ar (by have := zoz ar; omega)
      (fun i x acc hi hx hm ha hw => by
       unfold z9q
       rw [if_pos (by show decide ((i : Int) < (ar.length : Int)) = true; simpa using hi)]
       dsimp only [z05.Arms]
       simp only [hx, Option.bind_eq_bind, Option.bind_some, hw]
       have hz := z01h hm
       refine Sn.bind (f := _) ((ih x.Body (by omega) (by omega) n).mono (by omega)) (.inl ?_)
       have := zoz ar
       rw [z6m (by simp; omega)]
       rfl)
      (fun acc => by unfold z9q; rw [if_neg (by simp [z05.Arms])])
     have kb := (ih bo (by omega) (by omega) n).mono (by omega : _ ≤ szL (cL l) - 1)
     have ke := (ih el (by omega) (by omega) n).mono (by omega : _ ≤ szL (cL l) - 1)
     have fin : ∀ v9, Sn n (szL (cL l) - 1) ((app 288 acc [v9]).bind fun v9 => some (Sum.inl (((i + 1 : Nat) : Int), v9)) : Option (Sum (Int × List z02) (Sum (List z02) (List z02)))) (.inl (((i + 1 : Nat) : Int), acc ++ [v9])) := fun v9 => .inl (by rw [z6m (by simp; omega)]; rfl)
     refine Sn.bind (f := _) kb (Sn.bind (f := _) ke (Sn.bind (f := _) har ?_))
     have := fin (.mk k nm tg (cE e) (cC c) (cL bo) (cL el) (ar.map cArm))
     rw [← zoy] at this
     simp only [cS]
     rw [← zoy]
     exact this)
    (fun acc => by unfold z9r; rw [if_neg (by simp)])
   have t2 := (Sn.bind (f := Sum.elim (fun _ => none) (fun j1 => some j1)) h (.inl (by rw [← zox]; rfl : _ = some (cL l)))).up
   exact t2.mono (by omega)
theorem z009 {l : List z05} (h : szL (cL l) ≤ 400000000000) : zk6 l = some (cL l) := Sn.unf fun n => cvL _ l (Nat.le_refl _) h n
end Go.Proofs.YtokjbpmjdcbogaaGreatDoor.Abs.Wri
/- The statements' own systems, turned to the program's; the text that each Ast law asks for. -/
namespace Go.Proofs.YtokjbpmjdcbogaaGreatDoor.Abs.Wri
open Go Go.RowKit
set_option linter.unusedVariables false
set_option linter.unusedSimpArgs false
def cCh (c : z5b) : z24 := ⟨c.Name, c.Kind, c.Size, c.From, c.To, c.Tags⟩
def cMo (m : z7j) : z35 := ⟨m.From, m.Tag, m.To⟩
def cRu (r : z5p) : z2c := ⟨r.Chan, r.Moves.map cMo⟩
def cPr (p : z4q) : z2d := ⟨p.Name, p.Vars, cL p.Body⟩
def cSys (s : z16) : z18 := ⟨s.Chans.map cCh, s.Rules.map cRu, s.Procs.map cPr⟩
theorem zcl {β γ : Type} (c : γ → Nat) (f : β → γ) : ∀ l : List β, sumN c (l.map f) = sumN (fun x => c (f x)) l
 | [] => rfl
 | x :: r => by simp only [List.map_cons, sumN, zcl c f r]
theorem z05y {s : z16} (h : za8 (cSys s) ≤ 400000000000) : zd3 s = some (cSys s) := by
 unfold za8 cSys at h
 simp only [zcl] at h
 have n1 := zau (c := fun x => szCh (cCh x)) (fun x => by unfold szCh; omega) s.Chans
 have n2 := zau (c := fun x => szR (cRu x)) (fun x => by unfold szR; omega) s.Rules
 have n3 := zau (c := fun x => szP (cPr x)) (fun x => by unfold szP; omega) s.Procs
 unfold zd3
 rw [zf7 (body := z87 s) cCh s.Chans (by omega) (fun i x acc hi hx hm ha hw => by
   unfold z87
   rw [if_pos (by simpa using hi)]
   simp only [hx, Option.bind_eq_bind, Option.bind_some, hw]
   have hz := zav (c := fun x => szCh (cCh x)) hm
   have hz2 : szCh (cCh x) = 3 + x.Tags.length := rfl
   rw [z6m (by simp; omega)]
   simp only [Option.bind_some, List.nil_append]
   rw [z6m (by simp; omega)]
   rfl) (fun acc => by unfold z87; rw [if_neg (by simp)])]
 simp only [Option.bind_eq_bind, Option.bind_some, Sum.elim_inr]
 rw [zf7 (body := z89 s) cRu s.Rules (by omega) (fun i x acc hi hx hm ha hw => by
   unfold z89
   rw [if_pos (by simpa using hi)]
   simp only [hx, Option.bind_eq_bind, Option.bind_some, hw]
   have hz := zav (c := fun x => szR (cRu x)) hm
   have hz2 : szR (cRu x) = 1 + (x.Moves.map cMo).length := rfl
   rw [List.length_map] at hz2
   rw [zf7 (body := z88 s ((i : Int), acc)) cMo x.Moves (by omega) (fun j y ac hj hy hym hya hw => by
    unfold z88
    simp only [hx, Option.bind_eq_bind, Option.bind_some]
    rw [if_pos (by simpa using hj)]
    simp only [hy, Option.bind_eq_bind, Option.bind_some, hw]
    rw [z6m (by simp; omega)]
    rfl) (fun ac => by unfold z88; simp only [hx, Option.bind_eq_bind, Option.bind_some]; rw [if_neg (by simp)])]
   simp only [Option.bind_some, Sum.elim_inr]
   rw [z6m (by simp; omega)]
   rfl) (fun acc => by unfold z89; rw [if_neg (by simp)])]
 simp only [Option.bind_some, Sum.elim_inr]
 rw [zf7 (body := z8a s) cPr s.Procs (by omega) (fun i x acc hi hx hm ha hw => by
   unfold z8a
   rw [if_pos (by simpa using hi)]
   simp only [hx, Option.bind_eq_bind, Option.bind_some, hw]
   have hz := zav (c := fun x => szP (cPr x)) hm
   have hz2 : szP (cPr x) = 1 + x.Vars.length + szL (cL x.Body) := rfl
   rw [z6m (by simp; omega)]
   simp only [Option.bind_some, List.nil_append]
   rw [z009 (by omega)]
   simp only [Option.bind_some]
   rw [z6m (by simp; omega)]
   rfl) (fun acc => by unfold z8a; rw [if_neg (by simp)])]
 rfl
/-! ### One letter is a name -/
end Go.Proofs.YtokjbpmjdcbogaaGreatDoor.Abs.Wri
/- The reference's Lex, as it is printed, comes to what lexing is, of all texts of at most 4,194,304 bytes; its name is the program's. -/
namespace Go.Proofs.YtokjbpmjdcbogaaGreatDoor.Abs.Wri
open Go Go.RowKit
set_option linter.unusedVariables false
set_option linter.unusedSimpArgs false
/-! ### Loops over a list -/
theorem ze3 {i : Nat} (h : i < 4611686018427387904) : IntKind.i64.wrap ((i : Int) + 1) = ((i + 1 : Nat) : Int) := by rw [w64 (by omega) (by omega)]; omega
/-- A loop that ends at the first that isn't. -/
theorem z00a {β O : Type} {body : Int → Option (Sum Int (Sum O Unit))} {n H : Nat} (l : List β) (p : β → Bool) (r : O) (hlen : l.length ≤ 4611686018427387904)
  (hs : ∀ (i : Nat) (x : β), l[i]? = some x → idx l (i : Int) = some x → x ∈ l → i < l.length → IntKind.i64.wrap ((i : Int) + 1) = ((i + 1 : Nat) : Int) → Sn n H (body (i : Int)) (if p x then .inl ((i + 1 : Nat) : Int) else .inr (.inl r)))
  (he : body (l.length : Int) = some (.inr (.inr ()))) : ∀ (m : List β) (i : Nat), l.drop i = m → i ≤ l.length → Sn n H (iter body (i : Int)) (if m.all p then .inr () else .inl r) := by
 intro m
 induction m with
 | nil =>
  intro i hd hi
  have : i = l.length := by have := List.drop_eq_nil_iff.1 hd; omega
  subst this
  exact .inl (by rw [z3x he]; rfl)
 | cons x m ih =>
  intro i hd hi
  have hlt : i < l.length := by
   refine Nat.lt_of_not_le fun h => ?_
   rw [List.drop_of_length_le h] at hd; cases hd
  rw [List.drop_eq_getElem_cons hlt] at hd
  injection hd with h1 h2
  have h3 := hs i x (by rw [← h1]; exact List.getElem?_eq_getElem hlt) (by rw [zf3 hlt, h1]) (by rw [← h1]; exact List.getElem_mem hlt) hlt (ze3 (by omega))
  rw [z7m]
  refine Sn.bind (f := _) h3 ?_
  cases hp : p x with
  | true =>
   have h4 := ih (i + 1) h2 hlt
   simp only [List.all_cons, hp, Bool.true_and, if_true]
   exact h4
  | false =>
   simp only [List.all_cons, hp, Bool.false_and, Bool.false_eq_true, if_false]
   exact .inl rfl
theorem zmo {β O : Type} {body : Int → Option (Sum Int (Sum O Unit))} {n H : Nat} (l : List β) (p : β → Bool) (r : O) (hlen : l.length ≤ 4611686018427387904)
  (hs : ∀ (i : Nat) (x : β), l[i]? = some x → idx l (i : Int) = some x → x ∈ l → i < l.length → IntKind.i64.wrap ((i : Int) + 1) = ((i + 1 : Nat) : Int) → Sn n H (body (i : Int)) (if p x then .inl ((i + 1 : Nat) : Int) else .inr (.inl r)))
  (he : body (l.length : Int) = some (.inr (.inr ()))) : Sn n H (iter body 0) (if l.all p then .inr () else .inl r) := z00a l p r hlen hs he l 0 rfl (by omega)
theorem z8p {β O : Type} {body : Int → Option (Sum Int (Sum O Unit))} (l : List β) (p : β → Bool) (r : O) (hlen : l.length ≤ 4611686018427387904)
  (hs : ∀ (i : Nat) (x : β), l[i]? = some x → idx l (i : Int) = some x → x ∈ l → i < l.length → IntKind.i64.wrap ((i : Int) + 1) = ((i + 1 : Nat) : Int) → body (i : Int) = some (if p x then .inl ((i + 1 : Nat) : Int) else .inr (.inl r)))
  (he : body (l.length : Int) = some (.inr (.inr ()))) : iter body 0 = some (if l.all p then .inr () else .inl r) := by
 rcases zmo (n := 0) (H := 0) l p r hlen (fun i x h1 h2 h3 h4 h5 => .inl (hs i x h1 h2 h3 h4 h5)) he with h | ⟨_, h⟩
 ·exact h
 ·omega
/-! ### Letters, digits, reserved words -/
theorem zjc (b : UInt8) : z98 (b.toNat : Int) = some (isL b) := by
 unfold z98 isL
 by_cases h : 97 ≤ b.toNat
 ·rw [if_pos (by simp; omega)]; simp only [h, decide_true, Bool.true_and]; exact congrArg some (decide_eq_decide.mpr (by omega))
 ·rw [if_neg (by simp; omega)]; simp only [h, decide_false, Bool.false_and]
theorem zki (b : UInt8) : za2 (b.toNat : Int) = some (isD b) := by
 unfold za2 isD
 by_cases h : 48 ≤ b.toNat
 ·rw [if_pos (by simp; omega)]; simp only [h, decide_true, Bool.true_and]; exact congrArg some (decide_eq_decide.mpr (by omega))
 ·rw [if_neg (by simp; omega)]; simp only [h, decide_false, Bool.false_and]
def zxt : List ByteArray := [(ByteArray.mk #[99, 104, 97, 110]), (ByteArray.mk #[98, 108, 111, 99, 107]), (ByteArray.mk #[100, 114, 111, 112]), (ByteArray.mk #[108, 111, 115, 115, 121]), (ByteArray.mk #[102, 114, 111, 109]), (ByteArray.mk #[116, 111]), (ByteArray.mk #[114, 117, 108, 101]), (ByteArray.mk #[112, 114, 111, 99]), (ByteArray.mk #[118, 97, 114]), (ByteArray.mk #[105, 102]), (ByteArray.mk #[101, 108, 115, 101]), (ByteArray.mk #[119, 104, 105, 108, 101]), (ByteArray.mk #[115, 101, 110, 100]), (ByteArray.mk #[114, 101, 99, 118]), (ByteArray.mk #[97, 115, 115, 101, 114, 116]), (ByteArray.mk #[105, 110, 112, 117, 116])]
theorem zxu : zxt.map (·.data.toList) = resv := rfl
theorem zur (s : ByteArray) : zaw s = some (decide (s.data.toList ∈ resv)) := by
 unfold zaw
 show (iter (z5z s zxt) 0).bind _ = _
 rw [z8p (body := z5z s zxt) zxt (fun x => !(x.toList == s.toList)) true (by decide) (fun i x h0 h1 h2 h3 h4 => by
   unfold z5z
   rw [if_pos (by simpa using h3), h1]
   simp only [Option.bind_eq_bind, Option.bind_some, h4]
   cases (x.toList == s.toList) <;> rfl) (by unfold z5z; rw [if_neg (by simp)])]
 simp only [Option.bind_some]
 have e : zxt.all (fun x => !(x.toList == s.toList)) = !decide (s.data.toList ∈ resv) := by
  rw [Bool.eq_iff_iff, List.all_eq_true, ← zxu]
  simp only [Bool.not_eq_true', beq_eq_false_iff_ne, decide_eq_false_iff_not, List.mem_map, not_exists, not_and, Go.ByteArray.toList_eq]
 rw [e]
 cases decide (s.data.toList ∈ resv) <;> rfl
/-! ### sign -/
def twoB : List ByteArray := [(ByteArray.mk #[61, 61]), (ByteArray.mk #[33, 61]), (ByteArray.mk #[60, 61]), (ByteArray.mk #[62, 61])]
def oneB : ByteArray := ByteArray.mk #[123, 125, 40, 41, 59, 44, 46, 61, 60, 62, 43, 45, 42, 47, 37]
theorem z070 (s : ByteArray) (hs : s.size ≤ 4194304) (p : Nat) (hp : p < s.size) : zh8 s (p : Int) = some ((zce (s.data.toList.drop p) : Nat) : Int) := by
 have hl : p < s.data.toList.length := by rw [z3e]; omega
 have e := List.drop_eq_getElem_cons hl
 have hb := za6 s p hl
 generalize s.data.toList[p] = a at e hb
 have hw : IntKind.i64.wrap ((p : Int) + 2) = ((p + 2 : Nat) : Int) := by rw [w64 (by omega) (by omega)]; omega
 have h1 := z8p (body := zaf s (p : Int)) twoB (fun x => !(decide (p + 2 ≤ s.size) && ((s.extract p (p + 2)).toList == x.toList))) 2 (by decide) (fun i x h0 h1 h2 h3 h4 => by
   unfold zaf
   have h3' : (i : Int) < 4 := by have : i < 4 := h3; omega
   rw [if_pos (by simpa using h3'), hw, h4]
   have h1' : idx [(ByteArray.mk #[61, 61]), (ByteArray.mk #[33, 61]), (ByteArray.mk #[60, 61]), (ByteArray.mk #[62, 61])] (i : Int) = some x := h1
   by_cases h2 : p + 2 ≤ s.size
   ·rw [if_pos (by simp only [decide_eq_true_eq]; omega), zmx (by omega) h2]
    simp only [Option.bind_eq_bind, Option.bind_some, h1', h2, decide_true, Bool.true_and]
    cases ((s.extract p (p + 2)).toList == x.toList) <;> rfl
   ·rw [if_neg (by simp only [decide_eq_true_eq]; omega)]
    simp only [Option.bind_eq_bind, Option.bind_some, h2, decide_false, Bool.false_and]
    rfl) (by unfold zaf; rfl)
 have h2 := z8p (body := zag s (p : Int)) ones (fun x => !(decide (x = a))) 1 (by decide) (fun i x h0 h1 h2 h3 h4 => by
   unfold zag
   have h3' : i < 15 := h3
   have hsz : (ByteArray.mk #[123, 125, 40, 41, 59, 44, 46, 61, 60, 62, 43, 45, 42, 47, 37]).size = 15 := rfl
   have hbi : bidx (ByteArray.mk #[123, 125, 40, 41, 59, 44, 46, 61, 60, 62, 43, 45, 42, 47, 37]) (i : Int) = some (x.toNat : Int) := by
    have := za6 oneB i h3
    have hx : oneB.data.toList[i]'h3 = x := by
     have : ones[i]? = some (oneB.data.toList[i]'h3) := List.getElem?_eq_getElem (l := ones) h3
     rw [h0] at this; injection this with this; exact this.symm
    rw [hx] at this; exact this
   rw [hsz, if_pos (by simp only [decide_eq_true_eq]; omega), hbi]
   simp only [Option.bind_eq_bind, Option.bind_some, hb, h4]
   by_cases hx : x = a
   ·subst hx; simp
   ·have : ¬ ((x.toNat : Int) = (a.toNat : Int)) := fun h => hx (UInt8.toNat_inj.mp (by omega))
    have h2 : ((x.toNat : Int) == (a.toNat : Int)) = false := by simpa using this
    rw [h2]
    simp [hx]) (by unfold zag; rfl)
 unfold zh8
 rw [h1]
 have e1 : twoB.all (fun x => !(decide (p + 2 ≤ s.size) && ((s.extract p (p + 2)).toList == x.toList))) = !decide ((s.data.toList.drop p)[1]? = some 61 ∧ (s.data.toList.drop p).head? ∈ twos.map some) := by
  rw [Bool.eq_iff_iff]
  have hlen : (s.data.toList.drop p).length = s.size - p := by rw [List.length_drop, z3e]
  have htd : (s.extract p (p + 2)).data.toList = (s.data.toList.drop p).take 2 := by rw [ext_list, List.drop_take]; congr 1; omega
  simp only [Go.ByteArray.toList_eq, htd, e] at hlen ⊢
  cases hr : List.drop (p + 1) s.data.toList with
  | nil =>
   rw [hr] at hlen
   simp only [List.length_cons, List.length_nil] at hlen
   have : ¬ (p + 2 ≤ s.size) := by omega
   simp [this]
  | cons c r =>
   rw [hr] at hlen
   simp only [List.length_cons] at hlen
   have : p + 2 ≤ s.size := by omega
   simp only [this, decide_true, Bool.true_and, twoB, List.all_cons, List.all_nil, Bool.and_true, List.take_succ_cons, List.take_zero, List.getElem?_cons_succ, List.getElem?_cons_zero, List.head?_cons, twos, List.map_cons, List.map_nil, List.mem_cons, List.not_mem_nil, or_false, Option.some.injEq, Bool.and_eq_true, Bool.not_eq_true', beq_eq_false_iff_ne, decide_eq_false_iff_not, ne_eq, List.cons.injEq, and_true]
   constructor
   ·rintro ⟨h1, h2, h3, h4⟩ ⟨h5, h6⟩
    subst h5
    simp only [and_true] at h1 h2 h3 h4
    rcases h6 with h | h | h | h
    ·exact h1 h
    ·exact h2 h
    ·exact h3 h
    ·exact h4 h
   ·intro h
    refine ⟨fun g => h ⟨g.2, .inl g.1⟩, fun g => h ⟨g.2, .inr (.inl g.1)⟩, fun g => h ⟨g.2, .inr (.inr (.inl g.1))⟩, fun g => h ⟨g.2, .inr (.inr (.inr g.1))⟩⟩
 have e2 : ones.all (fun x => !(decide (x = a))) = !decide ((s.data.toList.drop p).head? ∈ ones.map some) := by
  rw [Bool.eq_iff_iff, e]
  simp only [List.all_eq_true, List.head?_cons, List.mem_map, Option.some.injEq, exists_eq_right, Bool.not_eq_true', decide_eq_false_iff_not]
  constructor
  ·intro h h2; exact h a h2 rfl
  ·rintro h x hx rfl; exact h hx
 rw [e1]
 unfold zce
 by_cases g : (s.data.toList.drop p)[1]? = some 61 ∧ (s.data.toList.drop p).head? ∈ twos.map some
 ·rw [if_pos g]; simp only [g, and_self, decide_true]; rfl
 ·rw [if_neg g]
  simp only [g, decide_false, Bool.not_false, if_true, Option.bind_eq_bind, Option.bind_some, Sum.elim_inr]
  rw [h2, e2]
  by_cases g2 : (s.data.toList.drop p).head? ∈ ones.map some
  ·rw [if_pos g2]; simp only [g2, decide_true]; rfl
  ·rw [if_neg g2]; simp only [g2, decide_false]; rfl
/-! ### Lex -/
def tokR (t : Tok) : z39 := ⟨t.kind, ⟨t.text.toArray⟩, (t.num : Int), (t.at_ : Int)⟩
def finR (size : Nat) (z : List Tok × Option (Nat × Int)) : List z39 × Int × Int :=
 ((told size z).1.map tokR, (told size z).2.1, (told size z).2.2)
theorem z08d (s : ByteArray) (hs : s.size ≤ 4194304) (b : UInt8) (hA : isA b = true) : ∀ (d i : Nat), s.size - i = d → i ≤ s.size →
  iter (z81 s (b.toNat : Int)) (i : Int) = some (.inr ((i + runL (s.data.toList.drop i) : Nat) : Int)) := by
 intro d
 induction d with
 | zero =>
  intro i hd hi
  refine z3x ?_
  unfold z81
  rw [if_neg (by simp; omega), List.drop_of_length_le (by rw [z3e]; omega)]
  simp [runL]
 | succ d ih =>
  intro i hd hi
  have hl : i < s.data.toList.length := by rw [z3e]; omega
  have e := List.drop_eq_getElem_cons hl
  have hb := za6 s i hl
  generalize s.data.toList[i] = c at e hb
  have hw := ze3 (i := i) (by omega)
  have IH := ih (i + 1) (by omega) (by omega)
  have hlt : (decide ((i : Int) < (s.size : Int))) = true := by simp; omega
  have hbody : z81 s (b.toNat : Int) (i : Int) = some (if isA c then .inl ((i + 1 : Nat) : Int) else .inr (.inr (i : Int))) := by
   unfold z81
   rw [if_pos hlt]
   simp only [hb, Option.bind_eq_bind, Option.bind_some, zjc, zki, hw]
   unfold isA at hA ⊢
   cases hL : isL b
   ·rw [hL] at hA
    simp only [Bool.false_or] at hA
    rw [hA]
    cases isL c <;> cases isD c <;> rfl
   ·cases isL c <;> cases isD c <;> rfl
  rw [e, zc9]
  by_cases hc : isA c = true
  ·rw [if_pos hc]
   rw [if_pos hc] at hbody
   rw [zcw hbody, IH]
   congr 2; omega
  ·rw [if_neg hc]
   rw [if_neg hc] at hbody
   rw [z3x hbody]; rfl
theorem z071 (s : ByteArray) (b : UInt8) (hA : isA b = false) (i : Nat) (hi : i < s.size) : iter (z81 s (b.toNat : Int)) (i : Int) = some (.inr (i : Int)) := by
 refine z3x ?_
 unfold z81
 unfold isA at hA
 rw [Bool.or_eq_false_iff] at hA
 rw [if_pos (by simp; omega)]
 simp only [Option.bind_eq_bind, Option.bind_some, zjc, zki, hA.1, hA.2]
 rfl
theorem z00b (t : Bs) (b : UInt8) : dval (t ++ [b]) = 10 * dval t + (b.toNat - 48) := by simp [dval, List.foldl_append]
theorem z08e (v : ByteArray) (x1 : Int × List z39) (hv : v.size ≤ 10) : iter (z99 v x1) (0, 0) = some (if v.data.toList.all isD then .inr ((dval v.data.toList : Nat) : Int) else .inl ([], x1.1, 3)) := by
 have step : ∀ (d i : Nat), v.size - i = d → i ≤ v.size → (v.data.toList.take i).all isD = true → iter (z99 v x1) ((i : Int), ((dval (v.data.toList.take i) : Nat) : Int)) = some (if v.data.toList.all isD then .inr ((dval v.data.toList : Nat) : Int) else .inl ([], x1.1, 3)) := by
  intro d
  induction d with
  | zero =>
   intro i hd hi ha
   have : i = v.size := by omega
   subst this
   rw [List.take_of_length_le (by rw [z3e]; omega)] at ha ⊢
   rw [if_pos ha]
   refine z3x ?_
   unfold z99
   rw [if_neg (by simp)]
  | succ d ih =>
   intro i hd hi ha
   have hl : i < v.data.toList.length := by rw [z3e]; omega
   have hb := za6 v i hl
   have htk : v.data.toList.take (i + 1) = v.data.toList.take i ++ [v.data.toList[i]] := by
    rw [List.take_add_one, List.getElem?_eq_getElem hl]; rfl
   have hmem : v.data.toList[i] ∈ v.data.toList := List.getElem_mem hl
   generalize v.data.toList[i] = c at hb htk hmem
   have hlt := z001 (v.data.toList.take i) (fun b hb => List.all_eq_true.1 ha b hb) 0
   have hlen : (v.data.toList.take i).length ≤ 9 := by rw [List.length_take, z3e]; omega
   have hpow : (10 : Nat) ^ (v.data.toList.take i).length ≤ 1000000000 := by
    have := Nat.pow_le_pow_right (n := 10) (by omega) hlen
    have : (10 : Nat) ^ 9 = 1000000000 := by decide
    omega
   have hdv : dval (v.data.toList.take i) < 1000000000 := by rw [zr0]; omega
   have hbody : z99 v x1 ((i : Int), ((dval (v.data.toList.take i) : Nat) : Int)) = some (if isD c then .inl (((i + 1 : Nat) : Int), ((dval (v.data.toList.take (i + 1)) : Nat) : Int)) else .inr (.inl ([], x1.1, 3))) := by
    unfold z99
    rw [if_pos (by simp; omega)]
    simp only [hb, Option.bind_eq_bind, Option.bind_some, zki]
    cases hD : isD c
    ·rfl
    ·simp only [Bool.not_true, Bool.false_eq_true, if_false, if_true]
     simp only [isD, Bool.and_eq_true, decide_eq_true_eq] at hD
     rw [ze3 (i := i) (by omega), w8u (n := (c.toNat : Int) - 48) (by omega) (by omega), w64 (n := (c.toNat : Int) - 48) (by omega) (by omega), w64 (n := 10 * ((dval (v.data.toList.take i) : Nat) : Int)) (by omega) (by omega), w64 (by omega) (by omega), htk, z00b]
     congr 4
     omega
   by_cases hD : isD c = true
   ·rw [if_pos hD] at hbody
    rw [zcw hbody]
    exact ih (i + 1) (by omega) (by omega) (by rw [htk, List.all_append, ha]; simp [hD])
   ·rw [if_neg hD] at hbody
    rw [z3x hbody, if_neg]
    intro h
    exact hD (List.all_eq_true.1 h c hmem)
 have := step v.size 0 (by omega) (by omega) (by simp)
 simpa [dval] using this
theorem zus (s : ByteArray) (hs : s.size ≤ 4194304) (i : Nat) (b : UInt8) (r : Bs) (acc : List z39) (e : s.data.toList.drop i = b :: r) (hi : i < s.size) (hB : isB b = false) (ha : acc.length ≤ i) :
  z7c s ((i : Int), acc) = match zdf (b :: r) with
   | .error c => some (.inr (.inl ([], (i : Int), c)))
   | .ok w => some (.inl (((i + w.len : Nat) : Int), acc ++ [tokR ⟨w.kind, (b :: r).take w.len, w.num, i⟩])) := by
 have hl : i < s.data.toList.length := by rw [z3e]; omega
 have hb : bidx s (i : Int) = some (b.toNat : Int) := by
  rw [za6 s i hl]
  have := List.drop_eq_getElem_cons hl
  rw [e] at this; injection this with h1 h2; rw [← h1]
 have hlt : (decide ((i : Int) < (s.size : Int))) = true := by simp; omega
 have h32 : ((b.toNat : Int) == 32) = (b == 32) := by
  rw [Bool.eq_iff_iff, beq_iff_eq, beq_iff_eq]
  constructor
  ·intro h; exact UInt8.toNat_inj.mp (by have : (32 : UInt8).toNat = 32 := rfl; omega)
  ·rintro rfl; rfl
 have h10 : ((b.toNat : Int) == 10) = (b == 10) := by
  rw [Bool.eq_iff_iff, beq_iff_eq, beq_iff_eq]
  constructor
  ·intro h; exact UInt8.toNat_inj.mp (by have : (10 : UInt8).toNat = 10 := rfl; omega)
  ·rintro rfl; rfl
 have h48 : ((b.toNat : Int) == 48) = (b == 48) := by
  rw [Bool.eq_iff_iff, beq_iff_eq, beq_iff_eq]
  constructor
  ·intro h; exact UInt8.toNat_inj.mp (by have : (48 : UInt8).toNat = 48 := rfl; omega)
  ·rintro rfl; rfl
 have hJ : (if (b == 32) = true then some true else some (b == 10)) = some false := by
  unfold isB at hB
  rw [Bool.or_eq_false_iff] at hB
  rw [hB.1, hB.2]; rfl
 have hrl := zmv (b :: r)
 have hlen : (b :: r).length = s.size - i := by rw [← e, List.length_drop, z3e]
 have cut : ∀ n, n ≤ (b :: r).length → ssub s (i : Int) ((i + n : Nat) : Int) = some (⟨((b :: r).take n).toArray⟩ : ByteArray) := fun n hn => by
  rw [zmx (by omega) (by omega)]
  refine congrArg some (zss ?_)
  rw [ext_list, List.drop_take, e]
  simp
 have tsz : ∀ n, n ≤ (b :: r).length → ((⟨((b :: r).take n).toArray⟩ : ByteArray)).size = n := fun n hn => by
  rw [← z3e]; simp only [List.length_take]; omega
 have tok : ∀ (k : Int) (n m : Nat), n ≤ (b :: r).length → app 40 acc [(z39.mk k ⟨((b :: r).take n).toArray⟩ (m : Int) (i : Int))] = some (acc ++ [tokR ⟨k, (b :: r).take n, m, i⟩]) := fun k n m hn => by
  rw [z6m (by simp; omega)]; rfl
 unfold z7c
 rw [if_pos hlt]
 simp only [hb, Option.bind_eq_bind, Option.bind_some, h32, h10, hJ, Bool.false_eq_true, if_false]
 rw [zbt]
 by_cases hA : isA b = true
 ·have hrun := z08d s hs b hA (s.size - i) i rfl (by omega)
  rw [e] at hrun
  rw [hrun]
  simp only [Option.bind_some, Sum.elim_inr, zjc, zki, cut _ hrl]
  cases hL : isL b with
  | true =>
   simp only [if_true, zur, Option.bind_some, tsz _ hrl]
   by_cases h12 : 12 < runL (b :: r)
   ·rw [if_pos h12]
    have : decide ((runL (b :: r) : Int) > 12) = true := by simp; omega
    cases decide (((⟨((b :: r).take (runL (b :: r))).toArray⟩ : ByteArray)).data.toList ∈ resv) <;> simp [this]
   ·rw [if_neg h12]
    have : decide ((runL (b :: r) : Int) > 12) = false := by simp; omega
    simp only [this, Bool.false_eq_true, if_false]
    by_cases hm : (b :: r).take (runL (b :: r)) ∈ resv
    ·have hm' : decide (((⟨((b :: r).take (runL (b :: r))).toArray⟩ : ByteArray)).data.toList ∈ resv) = true := by simpa using hm
     rw [hm', if_pos hm]
     have := tok 4 (runL (b :: r)) 0 hrl
     simp only [Int.natCast_zero] at this
     simp [this]
    ·have hm' : decide (((⟨((b :: r).take (runL (b :: r))).toArray⟩ : ByteArray)).data.toList ∈ resv) = false := by simpa using hm
     rw [hm', if_neg hm]
     have := tok 1 (runL (b :: r)) 0 hrl
     simp only [Int.natCast_zero] at this
     simp [this]
  | false =>
   have hD : isD b = true := by unfold isA at hA; rw [hL] at hA; simpa using hA
   simp only [Bool.false_eq_true, if_false, hD, if_true, Option.bind_some, tsz _ hrl, h48]
   have hpos := zja (b := b) (l := r) hA
   have hhd : (((b :: r).take (runL (b :: r))).head? == some 48) = (b == 48) := by
    obtain ⟨n, hn⟩ : ∃ n, runL (b :: r) = n + 1 := ⟨runL (b :: r) - 1, by omega⟩
    rw [hn]
    simp only [List.take_succ_cons, List.head?_cons]
    rw [Bool.eq_iff_iff]; simp
   have htl : ((b :: r).take (runL (b :: r))).length = runL (b :: r) := by rw [List.length_take]; omega
   unfold zol
   rw [hhd, htl]
   by_cases c10 : 10 < runL (b :: r)
   ·have : decide ((runL (b :: r) : Int) > 10) = true := by simp; omega
    have h2 : decide (runL (b :: r) ≤ 10) = false := by simp; omega
    simp [this, h2]
   ·have c10' : decide ((runL (b :: r) : Int) > 10) = false := by simp; omega
    have h2 : decide (runL (b :: r) ≤ 10) = true := by simp; omega
    have h1 : decide ((runL (b :: r) : Int) > 1) = decide (1 < runL (b :: r)) := decide_eq_decide.mpr (by omega)
    simp only [c10', h2, h1, Bool.false_eq_true, if_false, Bool.true_and]
    have hnum := z08e (⟨((b :: r).take (runL (b :: r))).toArray⟩ : ByteArray) ((i : Int), acc) (by rw [tsz _ hrl]; omega)
    simp only [List.toList_toArray] at hnum
    cases hz : (decide (1 < runL (b :: r)) && (b == 48)) with
    | true =>
     simp only [Bool.and_eq_true, decide_eq_true_eq] at hz
     simp [hz.1, hz.2]
    | false =>
     have hj : (if decide (1 < runL (b :: r)) = true then some (b == 48) else some false) = some false := by
      cases h3 : decide (1 < runL (b :: r))
      ·rfl
      ·rw [h3, Bool.true_and] at hz; rw [hz]; rfl
     rw [hj, hnum]
     simp only [Option.bind_some, Bool.false_eq_true, if_false, Bool.not_false, Bool.true_and]
     cases hall : ((b :: r).take (runL (b :: r))).all isD with
     | false => simp
     | true =>
      simp only [if_true, Sum.elim_inr, Bool.true_and]
      by_cases hv : dval ((b :: r).take (runL (b :: r))) ≤ 2147483647
      ·have hv2 : decide (((dval ((b :: r).take (runL (b :: r))) : Nat) : Int) > 2147483647) = false := by simp; omega
       have := tok 2 (runL (b :: r)) (dval ((b :: r).take (runL (b :: r)))) hrl
       simp [hv, hv2, this]
      ·have hv2 : decide (((dval ((b :: r).take (runL (b :: r))) : Nat) : Int) > 2147483647) = true := by simp; omega
       simp [hv, hv2]
 ·have hA : isA b = false := by simpa using hA
  have hLD := hA
  unfold isA at hLD
  rw [Bool.or_eq_false_iff] at hLD
  rw [z071 s b hA i hi]
  have hsg := z070 s hs i hi
  rw [e] at hsg
  have hsl := zmw (b :: r)
  simp only [Option.bind_some, Sum.elim_inr, zjc, zki, hLD.1, hLD.2, Bool.false_eq_true, if_false, hsg]
  have hw : IntKind.i64.wrap ((i : Int) + ((zce (b :: r) : Nat) : Int)) = ((i + zce (b :: r) : Nat) : Int) := by rw [w64 (by omega) (by omega)]; omega
  rw [hw, cut _ hsl]
  by_cases hz : zce (b :: r) = 0
  ·rw [if_pos hz]
   simp [hz]
  ·rw [if_neg hz]
   have : (((zce (b :: r) : Nat) : Int) == 0) = false := by simpa using hz
   have ht := tok 3 (zce (b :: r)) 0 hsl
   simp only [Int.natCast_zero] at ht
   simp [this, ht]
theorem z00c (s : ByteArray) (hs : s.size ≤ 4194304) : ∀ (d i : Nat) (acc : List Tok), s.size - i = d → i ≤ s.size → acc.length ≤ i →
  (iter (z7c s) ((i : Int), acc.map tokR) >>= Sum.elim (fun r => some r) (fun j1 => if (decide ((j1.length : Int) > 2000)) then (some ([], (s.size : Int), 4)) else (some (j1, 0, 0)))) = some (finR s.size (acc ++ (lexS (s.data.toList.drop i) i).1, (lexS (s.data.toList.drop i) i).2)) := by
 intro d
 induction d using Nat.strongRecOn with
 | _ d ih =>
 intro i acc hd hi ha
 by_cases hlt : i < s.size
 ·have hl : i < s.data.toList.length := by rw [z3e]; omega
  have e := List.drop_eq_getElem_cons hl
  have hb := za6 s i hl
  generalize s.data.toList[i] = b at e hb
  rw [e]
  by_cases hB : isB b = true
  ·have hbody : z7c s ((i : Int), acc.map tokR) = some (.inl (((i + 1 : Nat) : Int), acc.map tokR)) := by
    have h32 : ((b.toNat : Int) == 32) = (b == 32) := by
     rw [Bool.eq_iff_iff, beq_iff_eq, beq_iff_eq]
     constructor
     ·intro h; exact UInt8.toNat_inj.mp (by have : (32 : UInt8).toNat = 32 := rfl; omega)
     ·rintro rfl; rfl
    have h10 : ((b.toNat : Int) == 10) = (b == 10) := by
     rw [Bool.eq_iff_iff, beq_iff_eq, beq_iff_eq]
     constructor
     ·intro h; exact UInt8.toNat_inj.mp (by have : (10 : UInt8).toNat = 10 := rfl; omega)
     ·rintro rfl; rfl
    have hJ : (if (b == 32) = true then some true else some (b == 10)) = some true := by
     unfold isB at hB
     cases h : (b == 32)
     ·rw [h, Bool.false_or] at hB; rw [hB]; rfl
     ·rfl
    unfold z7c
    rw [if_pos (by simp; omega)]
    simp only [hb, Option.bind_eq_bind, Option.bind_some, h32, h10, hJ, if_true, ze3 (i := i) (by omega)]
   rw [zif _ _ hB, zcw hbody]
   exact ih (s.size - (i + 1)) (by omega) (i + 1) acc rfl (by omega) (by omega)
  ·have hB' : isB b = false := by simpa using hB
   have hbody := zus s hs i b _ (acc.map tokR) e hlt hB' (by simpa using ha)
   cases hw1 : zdf (b :: s.data.toList.drop (i + 1)) with
   | error c =>
    rw [hw1] at hbody
    rw [z3x hbody, zlt hB' hw1]
    rfl
   | ok w =>
    rw [hw1] at hbody
    have hlen := zhl hw1
    have hlen2 : w.len ≤ s.size - i := by
     have := hlen.2
     rw [← e, List.length_drop, z3e] at this
     exact this
    have hd2 : (b :: s.data.toList.drop (i + 1)).drop w.len = s.data.toList.drop (i + w.len) := by
     rw [← e, List.drop_drop]
    have IH := ih (s.size - (i + w.len)) (by omega) (i + w.len) (acc ++ [(⟨w.kind, (b :: s.data.toList.drop (i + 1)).take w.len, w.num, i⟩ : Tok)]) rfl (by omega) (by simp; omega)
    rw [zcw hbody, zqp hB' hw1, hd2]
    simp only [List.map_append, List.map_cons, List.map_nil, List.append_assoc, List.cons_append, List.nil_append] at IH
    exact IH
 ·have hnil : s.data.toList.drop i = [] := List.drop_of_length_le (by rw [z3e]; omega)
  rw [hnil, zmm]
  rw [z3x (r := .inr (acc.map tokR)) (by unfold z7c; rw [if_neg (by simp; omega)])]
  simp only [List.append_nil, finR, told, List.length_map, Option.bind_eq_bind, Option.bind_some, Sum.elim_inr]
  by_cases h2 : 2000 < acc.length
  ·rw [if_pos (by simp; omega), if_pos h2]; rfl
  ·rw [if_neg (by simp; omega), if_neg h2]
theorem z08f (s : ByteArray) (hs : s.size ≤ 4194304) : zjw s = some (finR s.size (lexS s.data.toList 0)) := by
 have := z00c s hs s.size 0 [] (by omega) (by omega) (by simp)
 unfold zjw
 rw [← show (iter (z7c s) (0, []) >>= Sum.elim (fun r => some r) (fun j1 => if (decide ((j1.length : Int) > 2000)) then (some ([], (s.size : Int), 4)) else (some (j1, 0, 0)))) = some (finR s.size (lexS s.data.toList 0)) by simpa using this]
theorem zbc (s : ByteArray) (hs : s.size ≤ 4194304) : z5c s = some (z2v s) := by
 unfold z5c z2v
 rw [z08f s hs]
 simp only [Option.bind_eq_bind, Option.bind_some, finR, finT]
 generalize told s.size (lexS s.data.toList 0) = v
 obtain ⟨l, p, e⟩ := v
 by_cases he : e = 0
 ·subst he
  match l with
  | [] => simp
  | [t] =>
   have : ∀ q : z39, idx [q] 0 = some q := fun _ => rfl
   by_cases hk : t.kind = 1
   ·simp [this, hk, tokR, tokT]
   ·have hk' : (t.kind == 1) = false := by simpa using hk
    simp [this, hk, hk', tokR, tokT]
  | t :: t' :: r =>
   have : ¬ ((r.length : Int) + 1 + 1 = 1) := by omega
   have h2 : ((r.length : Int) + 1 + 1 == 1) = false := by simpa using this
   simp [this, h2]
 ·have he' : (e == 0) = false := by simpa using he
  simp [he']
end Go.Proofs.YtokjbpmjdcbogaaGreatDoor.Abs.Wri
/- Of the reference: what may be is what the writer finds no fault with. -/
namespace Go.Proofs.YtokjbpmjdcbogaaGreatDoor.Abs.Wri
open Go Go.RowKit
set_option linter.unusedVariables false
set_option linter.unusedSimpArgs false
theorem zl6 (k : Int) : zdp k = some (z6o k) := by unfold zdp z6o; by_cases h : k ≥ 4 <;> simp [h]
theorem zfl (n : Int) : z9a n = some (za0 n) := by unfold z9a za0; by_cases h : n ≥ 0 <;> simp [h]
theorem bc (b : Bool) : b = false ∨ b = true := by cases b <;> simp
theorem z9z {α : Type} (x : Option α) : (x.bind fun v => some v) = x := by cases x <;> rfl
/-! ### Expressions -/
def gE : z09 → Bool
 | ⟨k, n, s, []⟩ => if k == 1 then za0 n else k == 2 && z2v s
 | ⟨k, _, _, [x]⟩ => k == 3 && gE x
 | ⟨k, _, _, [l, r]⟩ => z6o k && (gE l && gE r)
 | ⟨_, _, _, _ :: _ :: _ :: _⟩ => false
theorem zr7 (m : Bool) (f : Int → Wr) (b : Bool) (p : Int) (h : ∀ q, (f q).bad = b) : (inP m f p).bad = b := by
 unfold inP
 split <;> simp [wW, wD, h]
theorem zlv : ∀ (e : z09) (p : Int), (sE (cE e) p).bad = !gE e
 | ⟨k, n, s, []⟩, p => by
  simp only [cE, cEs, sE, gE, zcs]
  by_cases h1 : k = 1
  ·subst h1; simp [wM, wI]
  ·by_cases h2 : k = 2
   ·subst h2; simp [wM, wN]
   ·simp [wM, wN, h1, h2]
 | ⟨k, n, s, [x]⟩, p => by
  have hx := zlv x
  simp only [cE, cEs, sE, gE]
  by_cases h3 : k = 3
  ·subst h3
   have := zr7 (z6o (cE x).Kind) (sE (cE x)) (!gE x) (p + 1) hx
   simp [wW, wD, this]
  ·simp [zcs, wM, h3]
 | ⟨k, n, s, [l, r]⟩, p => by
  have hl := zlv l
  have hr := zlv r
  simp only [cE, cEs, sE, gE]
  cases hk : z6o k
  ·simp [zcs, wM]
  ·have h1 := zr7 (!sumK k && sumK (cE l).Kind) (sE (cE l)) (!gE l) p hl
   have h2 := zr7 (sumK (cE r).Kind || (!sumK k && z6o (cE r).Kind)) (sE (cE r)) (!gE r) p hr
   simp [wW, h1, h2]
 | ⟨k, n, s, a :: b :: c :: l⟩, p => by
  simp only [cE, cEs, sE, gE, zcs]
  have : (((cE a :: cE b :: cE c :: cEs l).length : Int) == 0) = false := by simp only [List.length_cons]; simp; omega
  simp only [Wr.bad_app, wM, this, Bool.not_false, Bool.true_or]
theorem zn0 : ∀ e : z09, okE (cE e) → ∀ n, Sn n (szE (cE e)) (z4r n e) (gE e)
 | ⟨k, m, s, []⟩, ho, n => by
  simp only [cE, cEs, okE] at ho
  cases n with
  | zero => exact .inr ⟨rfl, z8i _⟩
  | succ n =>
   refine .inl ?_
   simp only [z4r, zfl, zl6, zbc s ho.2.1, Option.bind_eq_bind, Option.bind_some, gE]
   by_cases h1 : k = 1
   ·subst h1; cases za0 m <;> simp
   ·by_cases h2 : k = 2
    ·subst h2; cases z2v s <;> simp
    ·by_cases h3 : k = 3
     ·subst h3; simp
     ·cases hp : z6o k <;> simp [h1, h2, h3]
 | ⟨k, m, s, [x]⟩, ho, n => by
  simp only [cE, cEs, okE, okEs] at ho
  have hx := zn0 x ho.2.2.1
  cases n with
  | zero => exact .inr ⟨rfl, z8i _⟩
  | succ n =>
   have e1 : ((([x] : List z09).length : Int) == 0) = false := rfl
   have e2 : ((([x] : List z09).length : Int) == 1) = true := rfl
   have e3 : ((([x] : List z09).length : Int) == 2) = false := rfl
   have e4 : idx [x] 0 = some x := rfl
   by_cases h3 : k = 3
   ·subst h3
    simp only [z4r, gE]
    rw [if_neg (by decide), if_neg (by decide), if_pos (by decide), e2, e4]
    simp only [if_true, Option.bind_eq_bind, Option.bind_some, z9z]
    refine ((hx n).up.mono ?_)
    simp only [cE, cEs, szE, szEs]; omega
   ·refine .inl ?_
    simp only [z4r, zfl, zl6, zbc s ho.2.1, Option.bind_eq_bind, Option.bind_some, gE, e1, e2, e3]
    by_cases h1 : k = 1
    ·subst h1; cases za0 m <;> simp
    ·by_cases h2 : k = 2
     ·subst h2; cases z2v s <;> simp
     ·cases hp : z6o k <;> simp [h1, h2, h3]
 | ⟨k, m, s, [l, r]⟩, ho, n => by
  simp only [cE, cEs, okE, okEs] at ho
  have hl := zn0 l ho.2.2.1
  have hr := zn0 r ho.2.2.2.1
  cases n with
  | zero => exact .inr ⟨rfl, z8i _⟩
  | succ n =>
   have e1 : ((([l, r] : List z09).length : Int) == 0) = false := rfl
   have e2 : ((([l, r] : List z09).length : Int) == 1) = false := rfl
   have e3 : ((([l, r] : List z09).length : Int) == 2) = true := rfl
   have e4 : idx [l, r] 0 = some l := rfl
   have e5 : idx [l, r] 1 = some r := rfl
   cases hp : z6o k with
   | true =>
    have h1 : k ≠ 1 := by rintro rfl; cases hp
    have h2 : k ≠ 2 := by rintro rfl; cases hp
    have h3 : k ≠ 3 := by rintro rfl; cases hp
    simp only [z4r, gE]
    rw [if_neg (by simpa using h1), if_neg (by simpa using h2), if_neg (by simpa using h3), zl6, hp, e3, e4]
    simp only [if_true, Option.bind_eq_bind, Option.bind_some, z9z, e5, Bool.true_and]
    have t : Sn n (szE (cE ⟨k, m, s, [l, r]⟩) - 1) ((z4r n l).bind fun v => if v then (z4r n r) else some false) (gE l && gE r) := by
     refine Sn.bind (f := fun v => if v then (z4r n r) else some false) ((hl n).mono (show szE (cE l) ≤ szE (cE ⟨k, m, s, [l, r]⟩) - 1 by simp only [cE, cEs, szE, szEs]; omega)) ?_
     cases gE l
     ·exact .inl rfl
     ·simp only [if_true, Bool.true_and]
      exact (hr n).mono (show szE (cE r) ≤ szE (cE ⟨k, m, s, [l, r]⟩) - 1 by simp only [cE, cEs, szE, szEs]; omega)
    exact t.up.mono (by have := z8i (cE ⟨k, m, s, [l, r]⟩); omega)
   | false =>
    refine .inl ?_
    simp only [z4r, zfl, zl6, zbc s ho.2.1, Option.bind_eq_bind, Option.bind_some, gE, e1, e2, e3, hp]
    by_cases h1 : k = 1
    ·subst h1; cases za0 m <;> simp
    ·by_cases h2 : k = 2
     ·subst h2; cases z2v s <;> simp
     ·simp [h1, h2]
 | ⟨k, m, s, a :: b :: c :: l⟩, ho, n => by
  simp only [cE, cEs, okE] at ho
  cases n with
  | zero => exact .inr ⟨rfl, z8i _⟩
  | succ n =>
   have e1 : (((a :: b :: c :: l).length : Int) == 0) = false := by simp only [List.length_cons]; simp; omega
   have e2 : (((a :: b :: c :: l).length : Int) == 1) = false := by simp only [List.length_cons]; simp; omega
   have e3 : (((a :: b :: c :: l).length : Int) == 2) = false := by simp only [List.length_cons]; simp; omega
   refine .inl ?_
   simp only [z4r, zfl, zl6, zbc s ho.2.1, Option.bind_eq_bind, Option.bind_some, gE, e1, e2, e3]
   by_cases h1 : k = 1
   ·subst h1; cases za0 m <;> simp
   ·by_cases h2 : k = 2
    ·subst h2; cases z2v s <;> simp
    ·by_cases h3 : k = 3
     ·subst h3; simp
     ·cases hp : z6o k <;> simp [h1, h2, h3]
theorem zxv {e : z09} (h : okE (cE e)) : zff e = some (gE e) := Sn.unf fun n => zn0 e h n
def gC (c : z3z) : Bool := opOk c.Op && (gE c.L && gE c.R)
theorem zt0 (c : z3z) (p : Int) : (sC (cC c) p).bad = !gC c := by
 unfold sC gC cC
 simp only [Wr.bad_app, zlv]
 cases opOk c.Op <;> simp [wW, wM]
theorem z072 {c : z3z} (h : okC (cC c)) : zdq c = some (gC c) := by
 unfold zdq gC opOk
 rw [zxv (e := c.L) h.1, zxv (e := c.R) h.2]
 by_cases h1 : c.Op ≥ 1
 ·by_cases h2 : c.Op ≤ 6
  ·cases gE c.L <;> simp [h1, h2]
  ·simp [h1, h2]
 ·simp [h1]
/-! ### Statements -/
mutual
def gS : z05 → Bool
 | .mk k n t e c b l a =>
  if k == 1 then z2v n && gE e
  else if k == 2 then gC c && (gL b && gL l)
  else if k == 3 then gC c && gL b
  else if k == 4 then z2v n && (z2v t && gE e)
  else if k == 5 then (z2v n && !a.isEmpty) && gA a
  else if k == 6 then gC c
  else if k == 7 then z2v n
  else false
def gL : List z05 → Bool
 | [] => true
 | s :: r => gS s && gL r
def gA : List z2h → Bool
 | [] => true
 | .mk t v b :: r => (z2v t && (z2v v && gL b)) && gA r
end
def gAr (x : z2h) : Bool := z2v x.Tag && (z2v x.Var && gL x.Body)
theorem zt1 : ∀ l, gL l = l.all gS
 | [] => by simp only [gL]; rfl
 | s :: r => by simp only [gL, List.all_cons, zt1 r]
theorem zt2 : ∀ l, gA l = l.all gAr
 | [] => by simp only [gA]; rfl
 | .mk t v b :: r => by simp only [gA, List.all_cons, zt2 r]; rfl
theorem zr8 {f : Int → Wr} {b : Bool} (p : Int) (h : ∀ q, (f q).bad = b) : (inB f p).bad = b := by unfold inB; simp [wW, wD, h]
mutual
theorem z073 : ∀ (s : z05) (b p : Int), (sS (cS s) b p).bad = !gS s
 | .mk k n t e c bo el ar, b, p => by
  have hb := fun q => zp0 bo q p
  have he := fun q => zp0 el q p
  have ha := z01i ar b p
  have hB := zr8 (f := fun q => sL (cL bo) q p) b hb
  have hE := zr8 (f := fun q => sL (cL el) q p) b he
  simp only [cS, sS, gS]
  split
  ·simp [wW, wN, zlv]
  ·split
   ·cases hel : el with
    | nil =>
     subst hel
     simp [wW, zt0, hB, cL, gL, Wr.nil]
    | cons x r =>
     subst hel
     have : (cL (x :: r)).isEmpty = false := by simp only [cL]; rfl
     simp [wW, zt0, hB, hE, this, Bool.not_and]
   ·split
    ·simp [wW, zt0, hB]
    ·split
     ·simp [wW, wN, zlv]
     ·split
      ·have : (cA ar).isEmpty = ar.isEmpty := by cases ar with
        | nil => simp only [cA]; rfl
        | cons x r => cases x; simp only [cA]; rfl
       simp [wW, wN, wM, ha, this, Bool.or_assoc]
      ·split
       ·simp [wW, zt0]
       ·split
        ·simp [wW, wN]
        ·simp [wM]
theorem zp0 : ∀ (l : List z05) (b p : Int), (sL (cL l) b p).bad = !gL l
 | [], b, p => by simp only [cL, sL, gL]; rfl
 | s :: r, b, p => by
  have h1 := z073 s b p
  have h2 := zp0 r b p
  simp only [cL, sL, gL, Wr.bad_app, h1, h2, Bool.not_and]
theorem z01i : ∀ (l : List z2h) (b p : Int), (sA (cA l) b p).bad = !gA l
 | [], b, p => by simp only [cA, sA, gA]; rfl
 | .mk t v bo :: r, b, p => by
  have h1 := fun q => zp0 bo q p
  have h2 := z01i r b p
  have hB := zr8 (f := fun q => sL (cL bo) q p) b h1
  simp only [cA, sA, gA]
  simp [wW, wN, hB, h2, Bool.or_assoc]
end
/-- The arms' loop: what may be so far. -/
theorem zr9 {F : List z05 → Option Bool} {v1 : z05} {n H : Nat} (hlen : v1.Arms.length ≤ 400000000000) (hF : ∀ x ∈ v1.Arms, Sn n H (F x.Body) (gL x.Body)) (hN : ∀ x ∈ v1.Arms, x.Tag.size ≤ 4194304 ∧ x.Var.size ≤ 4194304) :
  ∀ (m : List z2h) (i : Nat) (ok : Bool), v1.Arms.drop i = m → i ≤ v1.Arms.length → Sn n H (iter (z7p F v1) (ok, (i : Int))) (.inr (ok && m.all gAr)) := by
 intro m
 induction m with
 | nil =>
  intro i ok hd hi
  have : i = v1.Arms.length := by have := List.drop_eq_nil_iff.1 hd; omega
  subst this
  exact .inl (by rw [z3x (r := .inr ok) (by unfold z7p; rw [if_neg (by simp)])]; simp)
 | cons x m ih =>
  intro i ok hd hi
  have hlt : i < v1.Arms.length := by
   refine Nat.lt_of_not_le fun h => ?_
   rw [List.drop_of_length_le h] at hd; cases hd
  rw [List.drop_eq_getElem_cons hlt] at hd
  injection hd with h1 h2
  have hi2 : idx v1.Arms (i : Int) = some x := by rw [zf3 hlt, h1]
  have hm : x ∈ v1.Arms := by rw [← h1]; exact List.getElem_mem hlt
  have h3 : Sn n H (z7p F v1 (ok, (i : Int))) (.inl (ok && gAr x, ((i + 1 : Nat) : Int))) := by
   unfold z7p
   rw [if_pos (by simpa using hlt)]
   simp only [hi2, Option.bind_eq_bind, Option.bind_some, zbc _ (hN x hm).1, zbc _ (hN x hm).2, ze3 (i := i) (by omega), z9z, gAr]
   cases ok with
   | false => exact .inl rfl
   | true =>
    simp only [if_true, Bool.true_and]
    cases z2v x.Tag with
    | false => exact .inl rfl
    | true =>
     simp only [if_true, Bool.true_and]
     cases z2v x.Var with
     | false => exact .inl rfl
     | true =>
      simp only [if_true, Bool.true_and]
      exact Sn.bind (f := _) (hF x hm) (.inl rfl)
  have h4 := ih (i + 1) (ok && gAr x) h2 hlt
  rw [z7m]
  refine Sn.bind (f := _) h3 ?_
  simp only [List.all_cons, ← Bool.and_assoc]
  exact h4
theorem z00d (k : Int) (nm tg : ByteArray) (e : z09) (c : z3z) (bo el : List z05) (ar : List z2h) : szS (cS (.mk k nm tg e c bo el ar)) = 4 + szE (cE e) + szC (cC c) + szL (cL bo) + szL (cL el) + szA (cA ar) := by simp only [cS, szS]
theorem zn1 {l : List z05} (h : okL (cL l)) {s : z05} (hs : s ∈ l) : okS (cS s) ∧ szS (cS s) + 1 ≤ szL (cL l) := by
 refine zxn h (cS s) ?_
 rw [zox]; exact List.mem_map.2 ⟨s, hs, rfl⟩
theorem zhp : ∀ {l : List z2h}, okA (cA l) → ∀ x ∈ l, x.Tag.size ≤ 4194304 ∧ x.Var.size ≤ 4194304 ∧ okL (cL x.Body) ∧ szL (cL x.Body) ≤ szA (cA l)
 | [], _, s, hs => by cases hs
 | .mk t v b :: r, ho, s, hs => by
  simp only [cA, okA] at ho
  simp only [cA, szA]
  rcases List.mem_cons.1 hs with rfl | hs
  ·exact ⟨ho.1, ho.2.1, ho.2.2.1, by show szL (cL b) ≤ _; omega⟩
  ·obtain ⟨h1, h2, h3, h4⟩ := zhp ho.2.2.2 s hs
   exact ⟨h1, h2, h3, by omega⟩
theorem z00e : ∀ (N : Nat) (l : List z05), szL (cL l) ≤ N → N ≤ 400000000000 → okL (cL l) → ∀ n, Sn n (szL (cL l)) (z67 n l) (gL l) := by
 intro N
 induction N with
 | zero => intro l hl; have := z4y (cL l); omega
 | succ N ih =>
  intro l hl hN ho n
  cases n with
  | zero => exact .inr ⟨rfl, z4y _⟩
  | succ n =>
   have hll := zsz l
   have hp := z4y (cL l)
   have h := zmo (n := n) (H := szL (cL l) - 1) (body := z9c (z67 n) l) l gS false (by omega)
    (fun i x h0 hx hm hlt hw => by
     obtain ⟨hoS, hz⟩ := zn1 ho hm
     obtain ⟨k, nm, tg, e, c, bo, el, ar⟩ := x
     rw [z00d] at hz
     simp only [cS, okS] at hoS
     obtain ⟨on, ot, oe, oc, ob, oel, oar⟩ := hoS
     have p1 := z4y (cL bo)
     have p2 := z4y (cL el)
     have p3 := zgx (cA ar)
     have fb := (ih bo (by omega) (by omega) ob n).mono (show szL (cL bo) ≤ szL (cL l) - 1 by omega)
     have fe := (ih el (by omega) (by omega) oel n).mono (show szL (cL el) ≤ szL (cL l) - 1 by omega)
     unfold z9c
     rw [if_pos (by simpa using hlt), hx]
     simp only [Option.bind_eq_bind, Option.bind_some, hw]
     dsimp only [z05.Kind, z05.Name, z05.Tag, z05.E, z05.C, z05.Body, z05.Else]
     simp only [zbc _ on, zbc _ ot, zxv oe, z072 oc, Option.bind_some, gS]
     by_cases h1 : k = 1
     ·subst h1; refine .inl ?_; simp only [Int.reduceBEq, if_true, Bool.false_eq_true, if_false]; cases z2v nm <;> cases gE e <;> rfl
     by_cases h2 : k = 2
     ·subst h2
      simp only [show ((2 : Int) == 1) = false from rfl, show ((2 : Int) == 2) = true from rfl, if_true, Bool.false_eq_true, if_false]
      cases gC c with
      | false => exact .inl rfl
      | true =>
       simp only [if_true, Bool.true_and, Option.bind_assoc]
       refine Sn.bind (f := _) fb ?_
       cases gL bo with
       | false => exact .inl rfl
       | true =>
        simp only [if_true, Bool.true_and, Option.bind_assoc]
        refine Sn.bind (f := _) fe ?_
        cases gL el <;> exact .inl rfl
     by_cases h3 : k = 3
     ·subst h3
      simp only [show ((3 : Int) == 1) = false from rfl, show ((3 : Int) == 2) = false from rfl, show ((3 : Int) == 3) = true from rfl, if_true, Bool.false_eq_true, if_false]
      cases gC c with
      | false => exact .inl rfl
      | true =>
       simp only [if_true, Bool.true_and, Option.bind_assoc]
       refine Sn.bind (f := _) fb ?_
       cases gL bo <;> exact .inl rfl
     by_cases h4 : k = 4
     ·subst h4; refine .inl ?_; simp only [Int.reduceBEq, if_true, Bool.false_eq_true, if_false]; cases z2v nm <;> cases z2v tg <;> cases gE e <;> rfl
     by_cases h5 : k = 5
     ·subst h5
      simp only [show ((5 : Int) == 1) = false from rfl, show ((5 : Int) == 2) = false from rfl, show ((5 : Int) == 3) = false from rfl, show ((5 : Int) == 4) = false from rfl, show ((5 : Int) == 5) = true from rfl, if_true, Bool.false_eq_true, if_false]
      have hal := zoz ar
      have hlen : (decide (((ar.length : Nat) : Int) > 0)) = !ar.isEmpty := by cases ar <;> simp
      have key := fun ok => zr9 (F := z67 n) (v1 := .mk 5 nm tg e c bo el ar) (n := n) (H := szL (cL l) - 1) (by show ar.length ≤ _; omega)
       (fun y hy => by obtain ⟨_, _, o3, z3⟩ := zhp oar y hy; exact (ih y.Body (by omega) (by omega) o3 n).mono (by omega))
       (fun y hy => by obtain ⟨o1, o2, _, _⟩ := zhp oar y hy; exact ⟨o1, o2⟩) ar 0 ok rfl (by omega)
      have hj : ((if z2v nm = true then some (decide ((((z05.mk 5 nm tg e c bo el ar).Arms.length : Nat) : Int) > 0)) else some false) : Option Bool) = some (z2v nm && !ar.isEmpty) := by
       show ((if z2v nm = true then some (decide (((ar.length : Nat) : Int) > 0)) else some false) : Option Bool) = _
       rw [hlen]; cases z2v nm <;> rfl
      rw [hj]
      simp only [Option.bind_some, Option.bind_assoc]
      refine Sn.bind (f := _) (key (z2v nm && !ar.isEmpty)) ?_
      rw [zt2]
      simp only [Sum.elim_inr]
      cases ((z2v nm && !ar.isEmpty) && ar.all gAr) <;> exact .inl rfl
     by_cases h6 : k = 6
     ·subst h6; refine .inl ?_; simp only [Int.reduceBEq, if_true, Bool.false_eq_true, if_false]; cases gC c <;> rfl
     by_cases h7 : k = 7
     ·subst h7; refine .inl ?_; simp only [Int.reduceBEq, if_true, Bool.false_eq_true, if_false]; cases z2v nm <;> rfl
     ·refine .inl ?_
      simp [h1, h2, h3, h4, h5, h6, h7])
    (by unfold z9c; rw [if_neg (by simp)])
   rw [← zt1] at h
   have t2 := (Sn.bind (f := Sum.elim (fun r => some r) (fun j1 => some true)) h (t := gL l) (.inl (by cases gL l <;> rfl))).up
   exact t2.mono (by omega)
theorem z042 {l : List z05} (ho : okL (cL l)) (h : szL (cL l) ≤ 400000000000) : zjy l = some (gL l) := Sn.unf fun n => z00e _ l (Nat.le_refl _) h ho n
/-! ### Systems -/
def gCh (c : z5b) : Bool := z2v c.Name && (z2v c.From && (z2v c.To && (kindOk c.Kind && (za0 c.Size && (!c.Tags.isEmpty && c.Tags.all z2v)))))
def gMo (m : z7j) : Bool := za0 m.From && (za0 m.To && z2v m.Tag)
def gR (r : z5p) : Bool := z2v r.Chan && r.Moves.all gMo
def gP (p : z4q) : Bool := z2v p.Name && (gL p.Body && p.Vars.all z2v)
def gSys (s : z16) : Bool := s.Chans.all gCh && (s.Rules.all gR && s.Procs.all gP)
theorem zcb {β : Type} {g : Nat → β → Wr} {p : β → Bool} : ∀ {l : List β} {i : Nat}, (∀ i, ∀ x ∈ l, (g i x).bad = !p x) → (z6n g i l).bad = !l.all p
 | [], i, h => rfl
 | x :: r, i, h => by simp only [z6n, Wr.bad_app, h i x List.mem_cons_self, zcb (p := p) fun i y hy => h i y (List.mem_cons_of_mem _ hy), List.all_cons, Bool.not_and]
theorem z00f (s : z16) : (sSys (cSys s)).bad = !gSys s := by
 unfold sSys gSys
 simp only [cSys, Wr.bad_app, Bool.not_and]
 rw [zcb (p := fun c => (!(sCh c).bad)) (fun i x _ => by simp), zcb (p := fun c => (!(sR c).bad)) (fun i x _ => by simp), zcb (p := fun c => (!(sP c).bad)) (fun i x _ => by simp)]
 simp only [List.all_map]
 have e1 : (fun c => !(sCh c).bad) ∘ cCh = gCh := by
  funext c
  have ht := zcb (g := wTag) (p := z2v) (l := c.Tags) (i := 0) (fun i x _ => by unfold wTag; split <;> simp [wN, wW])
  simp only [Function.comp, sCh, cCh, Wr.bad_app, ht, gCh]
  rcases bc (kindOk c.Kind) with hk | hk
  ·simp [hk, wW, wN, wI, wM]
  ·simp [hk, wW, wN, wI, wM]
   cases z2v c.Name <;> cases za0 c.Size <;> cases z2v c.From <;> cases z2v c.To <;> rfl
 have e2 : (fun c => !(sR c).bad) ∘ cRu = gR := by
  funext r
  have ht := zcb (g := zhk) (p := fun m => za0 m.From && (za0 m.To && z2v m.Tag)) (l := r.Moves.map cMo) (i := 0) (fun i x _ => by unfold zhk; simp [wI, wN, wW]; cases za0 x.From <;> cases za0 x.To <;> cases z2v x.Tag <;> rfl)
  simp only [Function.comp, sR, cRu, Wr.bad_app, ht, gR, List.all_map]
  have : ((fun m : z35 => za0 m.From && (za0 m.To && z2v m.Tag)) ∘ cMo) = gMo := rfl
  rw [this]
  simp [wW, wN]
 have e3 : (fun c => !(sP c).bad) ∘ cPr = gP := by
  funext p
  have ht := zcb (g := wVar) (p := z2v) (l := p.Vars) (i := 0) (fun i x _ => by simp [wVar, wN, wW])
  simp only [Function.comp, sP, cPr, Wr.bad_app, ht, gP, zp0]
  simp [wW, wN]
  cases z2v p.Name <;> cases gL p.Body <;> cases p.Vars.all z2v <;> rfl
 rw [e1, e2, e3]
theorem z074 {s : z16} (ho : zqs (cSys s)) {c : z5b} (h : c ∈ s.Chans) : okCh (cCh c) := ho.1 _ (List.mem_map.2 ⟨c, h, rfl⟩)
theorem z08g {s : z16} (ho : zqs (cSys s)) {c : z5p} (h : c ∈ s.Rules) : okR (cRu c) := ho.2.1 _ (List.mem_map.2 ⟨c, h, rfl⟩)
theorem z043 {s : z16} (ho : zqs (cSys s)) {c : z4q} (h : c ∈ s.Procs) : okP (cPr c) := ho.2.2 _ (List.mem_map.2 ⟨c, h, rfl⟩)
theorem z08h {s : z16} {c : z5b} (h : c ∈ s.Chans) : 3 + c.Tags.length ≤ za8 (cSys s) := by
 have := zav (c := szCh) (List.mem_map.2 ⟨c, h, rfl⟩ : cCh c ∈ (cSys s).Chans)
 have e : szCh (cCh c) = 3 + c.Tags.length := rfl
 unfold za8; simp only [cSys] at this ⊢; omega
theorem z08i {s : z16} {c : z5p} (h : c ∈ s.Rules) : 1 + c.Moves.length ≤ za8 (cSys s) := by
 have := zav (c := szR) (List.mem_map.2 ⟨c, h, rfl⟩ : cRu c ∈ (cSys s).Rules)
 have e : szR (cRu c) = 1 + (c.Moves.map cMo).length := rfl
 rw [List.length_map] at e
 unfold za8; simp only [cSys] at this ⊢; omega
theorem z044 {s : z16} {c : z4q} (h : c ∈ s.Procs) : 1 + c.Vars.length + szL (cL c.Body) ≤ za8 (cSys s) := by
 have := zav (c := szP) (List.mem_map.2 ⟨c, h, rfl⟩ : cPr c ∈ (cSys s).Procs)
 have e : szP (cPr c) = 1 + c.Vars.length + szL (cL c.Body) := rfl
 unfold za8; simp only [cSys] at this ⊢; omega
theorem lens (s : z16) : s.Chans.length ≤ za8 (cSys s) ∧ s.Rules.length ≤ za8 (cSys s) ∧ s.Procs.length ≤ za8 (cSys s) := by
 have n1 := zau (c := szCh) (fun x => by unfold szCh; omega) (cSys s).Chans
 have n2 := zau (c := szR) (fun x => by unfold szR; omega) (cSys s).Rules
 have n3 := zau (c := szP) (fun x => by unfold szP; omega) (cSys s).Procs
 simp only [cSys, List.length_map] at n1 n2 n3
 unfold za8; simp only [cSys]; omega
theorem z045 {s : z16} (ho : zqs (cSys s)) (hs : za8 (cSys s) ≤ 400000000000) : zen s = some (gSys s) := by
 obtain ⟨l1, l2, l3⟩ := lens s
 unfold zen
 rw [z8p (body := z9e s) s.Chans gCh false (by omega) (fun i x h0 h1 hm hlt hw => by
  obtain ⟨o1, o2, o3, o4, o5⟩ := z074 ho hm
  have hz := z08h hm
  have ht := z8p (body := z9d x) x.Tags z2v false (by omega) (fun i y g0 g1 gm glt gw => by
   unfold z9d
   rw [if_pos (by simpa using glt), g1]
   simp only [Option.bind_eq_bind, Option.bind_some, zbc y (o5 y gm), gw]
   rcases bc (z2v y) with b0 | b0 <;> simp [b0]) (by unfold z9d; rw [if_neg (by simp)])
  unfold z9e
  rw [if_pos (by simpa using hlt), h1]
  simp only [cCh] at o1 o2 o3
  simp only [Option.bind_eq_bind, Option.bind_some, zbc _ o1, zbc _ o2, zbc _ o3, zfl, hw, ht, gCh, kindOk]
  rcases bc (z2v x.Name) with b1 | b1
  ·simp [b1]
  rcases bc (z2v x.From) with b2 | b2
  ·simp [b1, b2]
  rcases bc (z2v x.To) with b3 | b3
  ·simp [b1, b2, b3]
  by_cases k1 : x.Kind < 0
  ·have : ¬ (x.Kind ≥ 0) := by omega
   simp [b1, b2, b3, k1, this]
  by_cases k2 : x.Kind > 2
  ·have h3 : ¬ (x.Kind < 3) := by omega
   simp [b1, b2, b3, k1, k2, h3]
  have h3 : x.Kind ≥ 0 := by omega
  have h4 : x.Kind < 3 := by omega
  rcases bc (za0 x.Size) with b4 | b4
  ·simp [b1, b2, b3, b4, k1, k2, h3, h4]
  have e : (((x.Tags.length : Nat) : Int) == 0) = x.Tags.isEmpty := by cases x.Tags <;> simp; omega
  rcases bc x.Tags.isEmpty with hte | hte
  ·rcases bc (x.Tags.all z2v) with hta | hta <;> simp [b1, b2, b3, b4, k1, k2, h3, h4, e, hte, hta]
  ·simp [b1, b2, b3, b4, k1, k2, h3, h4, e, hte]) (by unfold z9e; rw [if_neg (by simp)])]
 simp only [Option.bind_eq_bind, Option.bind_some, gSys]
 rcases bc (s.Chans.all gCh) with hc | hc
 ·rw [hc]; rfl
 rw [hc]
 simp only [if_true, Sum.elim_inr, Bool.true_and]
 rw [z8p (body := z9g s) s.Rules gR false (by omega) (fun i x h0 h1 hm hlt hw => by
  obtain ⟨o1, o2⟩ := z08g ho hm
  have hz := z08i hm
  have ht := z8p (body := z9f s (i : Int)) x.Moves gMo false (by omega) (fun j y g0 g1 gm glt gw => by
   have o3 := o2 (cMo y) (List.mem_map.2 ⟨y, gm, rfl⟩)
   have o4 : y.Tag.size ≤ 4194304 := o3.2.1
   unfold z9f
   rw [h1]
   simp only [Option.bind_eq_bind, Option.bind_some]
   rw [if_pos (by simpa using glt), g1]
   simp only [Option.bind_some, zbc _ o4, zfl, gw, gMo]
   rcases bc (za0 y.From) with b1 | b1
   ·simp [b1]
   rcases bc (za0 y.To) with b2 | b2
   ·simp [b1, b2]
   rcases bc (z2v y.Tag) with b3 | b3 <;> simp [b1, b2, b3]) (by unfold z9f; rw [h1]; simp only [Option.bind_eq_bind, Option.bind_some]; rw [if_neg (by simp)])
  unfold z9g
  have o1' : x.Chan.size ≤ 4194304 := o1
  rw [if_pos (by simpa using hlt), h1]
  simp only [Option.bind_eq_bind, Option.bind_some, zbc _ o1', hw, ht, gR]
  rcases bc (z2v x.Chan) with b1 | b1
  ·simp [b1]
  rcases bc (x.Moves.all gMo) with b2 | b2 <;> simp [b1, b2]) (by unfold z9g; rw [if_neg (by simp)])]
 simp only [Option.bind_some]
 rcases bc (s.Rules.all gR) with hr | hr
 ·rw [hr]; rfl
 rw [hr]
 simp only [if_true, Sum.elim_inr, Bool.true_and]
 rw [z8p (body := z9i s) s.Procs gP false (by omega) (fun i x h0 h1 hm hlt hw => by
  obtain ⟨o1, o2, o3⟩ := z043 ho hm
  have hz := z044 hm
  have ht := z8p (body := z9h x) x.Vars z2v false (by omega) (fun i y g0 g1 gm glt gw => by
   unfold z9h
   rw [if_pos (by simpa using glt), g1]
   simp only [Option.bind_eq_bind, Option.bind_some, zbc y (o2 y gm), gw]
   rcases bc (z2v y) with b0 | b0 <;> simp [b0]) (by unfold z9h; rw [if_neg (by simp)])
  unfold z9i
  have o1' : x.Name.size ≤ 4194304 := o1
  have o3' : okL (cL x.Body) := o3
  rw [if_pos (by simpa using hlt), h1]
  simp only [Option.bind_eq_bind, Option.bind_some, zbc _ o1', z042 o3' (by omega), hw, ht, gP]
  rcases bc (z2v x.Name) with b1 | b1
  ·simp [b1]
  rcases bc (gL x.Body) with b2 | b2
  ·simp [b1, b2]
  rcases bc (x.Vars.all z2v) with b3 | b3 <;> simp [b1, b2, b3]) (by unfold z9i; rw [if_neg (by simp)])]
 simp only [Option.bind_some]
 rcases bc (s.Procs.all gP) with hp | hp <;> rw [hp] <;> rfl
end Go.Proofs.YtokjbpmjdcbogaaGreatDoor.Abs.Wri
/- Of the reference: how deep something is, is what the writer reckons. -/
namespace Go.Proofs.YtokjbpmjdcbogaaGreatDoor.Abs.Wri
open Go Go.RowKit
set_option linter.unusedVariables false
set_option linter.unusedSimpArgs false
def zn2 (k q : Int) : Bool := !sumK k && sumK q
def zhq (k q : Int) : Bool := sumK q || (!sumK k && z6o q)
theorem zkj (k : Int) : sumK k = true ↔ k = 4 ∨ k = 5 := by unfold sumK; simp
theorem zn3 (k : Int) : z6o k = true ↔ 4 ≤ k ∧ k ≤ 8 := by unfold z6o; simp
theorem z01j {e x : z09} (h : z6o e.Kind = true) : zfg e x = some (zn2 e.Kind x.Kind) := by
 rw [zn3] at h
 unfold zfg zn2
 have hs : (if (x.Kind == 4) = true then some true else some (x.Kind == 5)) = some (sumK x.Kind) := by unfold sumK; cases (x.Kind == 4) <;> simp
 by_cases h6 : e.Kind ≥ 6
 ·have : sumK e.Kind = false := by rw [Bool.eq_false_iff]; intro h2; rw [zkj] at h2; omega
  rw [if_pos (by simpa using h6), hs, this]; rfl
 ·have : sumK e.Kind = true := by rw [zkj]; omega
  rw [if_neg (by simpa using h6), this]; rfl
theorem zt3 {e x : z09} (h : z6o e.Kind = true) : zc2 e x = some (zhq e.Kind x.Kind) := by
 rw [zn3] at h
 unfold zc2 zhq
 have hs : (if (x.Kind == 4) = true then some true else some (x.Kind == 5)) = some (sumK x.Kind) := by unfold sumK; cases (x.Kind == 4) <;> simp
 by_cases h6 : e.Kind ≥ 6
 ·have : sumK e.Kind = false := by rw [Bool.eq_false_iff]; intro h2; rw [zkj] at h2; omega
  rw [if_pos (by simpa using h6), zl6, this]
  have : (sumK x.Kind || z6o x.Kind) = z6o x.Kind := by
   rw [Bool.eq_iff_iff, Bool.or_eq_true, zkj, zn3]; omega
  simp [this]
 ·have : sumK e.Kind = true := by rw [zkj]; omega
  rw [if_neg (by simpa using h6), hs, this]; simp
def bn (b : Bool) : Nat := if b then 1 else 0
def dE : z09 → Nat
 | ⟨_, _, _, []⟩ => 0
 | ⟨_, _, _, [x]⟩ => 1 + bn (z6o x.Kind) + dE x
 | ⟨k, _, _, [l, r]⟩ => max (dE l + bn (zn2 k l.Kind)) (dE r + bn (zhq k r.Kind))
 | ⟨_, _, _, _ :: _ :: _ :: _⟩ => 0
theorem z046 (b : Bool) : bn b ≤ 1 := by cases b <;> decide
theorem zn4 : ∀ e : z09, dE e ≤ 2 * szE (cE e)
 | ⟨k, n, s, []⟩ => by simp only [dE]; omega
 | ⟨k, n, s, [x]⟩ => by
  have := zn4 x; have := z046 (z6o x.Kind)
  simp only [dE, cE, cEs, szE, szEs]; omega
 | ⟨k, n, s, [l, r]⟩ => by
  have := zn4 l; have := zn4 r; have := z046 (zn2 k l.Kind); have := z046 (zhq k r.Kind)
  simp only [dE, cE, cEs, szE, szEs]; omega
 | ⟨k, n, s, a :: b :: c :: l⟩ => by simp only [dE]; omega
theorem zih (e : z09) : (cE e).Kind = e.Kind := by cases e; simp only [cE]
def dpB (d : Nat) (p : Int) : Bool := decide (1 ≤ d) && decide (p + (d : Int) > 24)
theorem zxw (m : Bool) (f : Int → Wr) (d : Nat) (p : Int) (h : ∀ q, (f q).dp = dpB d q) : (inP m f p).dp = dpB (d + bn m) p := by
 unfold inP
 cases m with
 | false => simp only [Bool.false_eq_true, if_false, bn, Nat.add_zero]; exact h p
 | true =>
  simp only [if_true, Wr.dp_app, h, bn, wW, wD, dpB]
  rw [Bool.eq_iff_iff]
  simp only [Bool.or_eq_true, Bool.and_eq_true, decide_eq_true_eq, Bool.false_eq_true, false_or, or_false]
  omega
theorem zra : ∀ (e : z09) (p : Int), gE e = true → (sE (cE e) p).dp = dpB (dE e) p
 | ⟨k, n, s, []⟩, p, h => by
  simp only [cE, cEs, sE, zcs, dE, dpB]
  split <;> simp [wM, wI, wN]
 | ⟨k, n, s, [x]⟩, p, h => by
  simp only [gE, Bool.and_eq_true, beq_iff_eq] at h
  obtain ⟨rfl, h⟩ := h
  have hx := fun q => zra x q h
  have := zxw (z6o (cE x).Kind) (sE (cE x)) (dE x) (p + 1) hx
  rw [zih] at this
  simp only [cE, cEs, sE, dE, show ((3 : Int) == 3) = true from rfl, if_true, Wr.dp_app, zih, this]
  simp only [wW, wD, dpB, Bool.false_or]
  rw [Bool.eq_iff_iff]
  simp only [Bool.or_eq_true, Bool.and_eq_true, decide_eq_true_eq]
  omega
 | ⟨k, n, s, [l, r]⟩, p, h => by
  simp only [gE, Bool.and_eq_true] at h
  obtain ⟨hk, h1, h2⟩ := h
  have hl := zxw (!sumK k && sumK (cE l).Kind) (sE (cE l)) (dE l) p (fun q => zra l q h1)
  have hr := zxw (sumK (cE r).Kind || (!sumK k && z6o (cE r).Kind)) (sE (cE r)) (dE r) p (fun q => zra r q h2)
  rw [zih] at hl hr
  simp only [cE, cEs, sE, dE, hk, if_true, Wr.dp_app, zih, hl, hr]
  rw [show (!sumK k && sumK l.Kind) = zn2 k l.Kind from rfl, show (sumK r.Kind || (!sumK k && z6o r.Kind)) = zhq k r.Kind from rfl]
  simp only [wW, dpB, Bool.false_or]
  rw [Bool.eq_iff_iff]
  simp only [Bool.or_eq_true, Bool.and_eq_true, decide_eq_true_eq]
  omega
 | ⟨k, n, s, a :: b :: c :: l⟩, p, h => by simp only [gE] at h; cases h
theorem zn5 : ∀ e : z09, gE e = true → szE (cE e) ≤ 400000000000 → ∀ n, Sn n (szE (cE e)) (z6c n e) ((dE e : Nat) : Int)
 | ⟨k, m, s, []⟩, h, hz, n => by
  cases n with
  | zero => exact .inr ⟨rfl, z8i _⟩
  | succ n =>
   refine .inl ?_
   simp only [gE] at h
   have hk : k = 1 ∨ k = 2 := by
    by_cases h1 : k = 1
    ·exact .inl h1
    ·rw [if_neg (by simpa using h1)] at h
     simp only [Bool.and_eq_true, beq_iff_eq] at h
     exact .inr h.1
   simp only [z6c, zl6, dE]
   rcases hk with rfl | rfl <;> rfl
 | ⟨k, m, s, [x]⟩, h, hz, n => by
  simp only [gE, Bool.and_eq_true, beq_iff_eq] at h
  obtain ⟨rfl, h⟩ := h
  simp only [cE, cEs, szE, szEs] at hz
  have hx := zn5 x h (by omega)
  have hd := zn4 x
  cases n with
  | zero => exact .inr ⟨rfl, z8i _⟩
  | succ n =>
   have e4 : idx [x] 0 = some x := rfl
   simp only [z6c, show ((3 : Int) == 3) = true from rfl, if_true, e4, zl6, Option.bind_eq_bind, Option.bind_some, dE]
   cases hp : z6o x.Kind with
   | true =>
    simp only [if_true]
    refine (Sn.bind (f := fun v => some (IntKind.i64.wrap (2 + v))) (hx n) (.inl ?_)).up.mono (by simp only [cE, cEs, szE, szEs]; omega)
    rw [w64 (by omega) (by omega)]
    simp only [bn, if_true]; refine congrArg some ?_; omega
   | false =>
    simp only [Bool.false_eq_true, if_false]
    refine (Sn.bind (f := fun v => some (IntKind.i64.wrap (1 + v))) (hx n) (.inl ?_)).up.mono (by simp only [cE, cEs, szE, szEs]; omega)
    rw [w64 (by omega) (by omega)]
    simp only [bn, Bool.false_eq_true, if_false]; refine congrArg some ?_; omega
 | ⟨k, m, s, [l, r]⟩, h, hz, n => by
  simp only [gE, Bool.and_eq_true] at h
  obtain ⟨hk, h1, h2⟩ := h
  simp only [cE, cEs, szE, szEs] at hz
  have hl := zn5 l h1 (by omega)
  have hr := zn5 r h2 (by omega)
  have hdl := zn4 l
  have hdr := zn4 r
  cases n with
  | zero => exact .inr ⟨rfl, z8i _⟩
  | succ n =>
   have h3 : (k == 3) = false := by
    rw [beq_eq_false_iff_ne]; rintro rfl; cases hk
   have e4 : idx [l, r] 0 = some l := rfl
   have e5 : idx [l, r] 1 = some r := rfl
   have eL := z01j (e := ⟨k, m, s, [l, r]⟩) (x := l) hk
   have eR := zt3 (e := ⟨k, m, s, [l, r]⟩) (x := r) hk
   simp only [z6c, h3, Bool.false_eq_true, if_false, e4, e5, zl6, hk, if_true, Option.bind_eq_bind, Option.bind_some, eL, eR, dE]
   refine (Sn.bind (f := _) ((hl n).mono (show szE (cE l) ≤ szE (cE ⟨k, m, s, [l, r]⟩) - 1 by simp only [cE, cEs, szE, szEs]; omega)) (Sn.bind (f := _) ((hr n).mono (show szE (cE r) ≤ szE (cE ⟨k, m, s, [l, r]⟩) - 1 by simp only [cE, cEs, szE, szEs]; omega)) (.inl ?_))).up.mono (by have := z8i (cE ⟨k, m, s, [l, r]⟩); omega)
   rw [w64 (n := ((dE l : Nat) : Int) + 1) (by omega) (by omega), w64 (n := ((dE r : Nat) : Int) + 1) (by omega) (by omega)]
   cases zn2 k l.Kind <;> cases zhq k r.Kind <;> simp only [bn, if_true, Bool.false_eq_true, if_false] <;> (refine congrArg some ?_; omega)
 | ⟨k, m, s, a :: b :: c :: l⟩, h, hz, n => by simp only [gE] at h; cases h
theorem ziu {e : z09} (h : gE e = true) (hz : szE (cE e) ≤ 400000000000) : zas e = some ((dE e : Nat) : Int) := Sn.unf fun n => zn5 e h hz n
def dC (c : z3z) : Nat := max (dE c.L) (dE c.R)
theorem z047 (c : z3z) (p : Int) (h : gC c = true) : (sC (cC c) p).dp = dpB (dC c) p := by
 unfold gC at h
 simp only [Bool.and_eq_true] at h
 unfold sC cC dC
 simp only [Wr.dp_app, zra _ _ h.2.1, zra _ _ h.2.2, h.1, if_true, wW, dpB]
 rw [Bool.eq_iff_iff]
 simp only [Bool.or_eq_true, Bool.and_eq_true, decide_eq_true_eq, Bool.false_eq_true, false_or, or_false]
 omega
/-! ### Statements -/
def mx (x y : Nat × Nat) : Nat × Nat := (max x.1 y.1, max x.2 y.2)
def inr1 (x : Nat × Nat) : Nat × Nat := (x.1 + 1, x.2)
mutual
def dS : z05 → Nat × Nat
 | .mk k n t e c b l a =>
  if k == 1 || k == 4 then (0, dE e)
  else if k == 2 then mx (1, dC c) (mx (inr1 (dL b)) (inr1 (dL l)))
  else if k == 3 then mx (1, dC c) (inr1 (dL b))
  else if k == 5 then mx (1, 0) (dA a)
  else if k == 6 then (0, dC c)
  else (0, 0)
def dL : List z05 → Nat × Nat
 | [] => (0, 0)
 | s :: r => mx (dS s) (dL r)
def dA : List z2h → Nat × Nat
 | [] => (0, 0)
 | .mk t v b :: r => mx (inr1 (dL b)) (dA r)
end
/-- What is too deep: blocks, expressions. -/
def dq (d : Nat × Nat) (b : Int) : Bool := dpB d.1 b || decide (24 < d.2)
theorem dpB0 (d : Nat) : dpB d 0 = decide (24 < d) := by
 unfold dpB
 rw [Bool.eq_iff_iff]
 simp only [Bool.and_eq_true, decide_eq_true_eq]
 omega
theorem zut (x y : Nat × Nat) (b : Int) : dq (mx x y) b = (dq x b || dq y b) := by
 unfold dq mx dpB
 rw [Bool.eq_iff_iff]
 simp only [Bool.or_eq_true, Bool.and_eq_true, decide_eq_true_eq]
 omega
theorem zxx {f : Int → Wr} {d : Nat × Nat} (b : Int) (h : ∀ q, (f q).dp = dq d q) : (inB f b).dp = dq (inr1 d) b := by
 unfold inB
 simp only [Wr.dp_app, h, wW, wD]
 unfold dq inr1 dpB
 rw [Bool.eq_iff_iff]
 simp only [Bool.or_eq_true, Bool.and_eq_true, decide_eq_true_eq, Bool.false_eq_true, false_or, or_false]
 omega
theorem dq_x (d x : Nat) (b : Int) (hd : d = 0) : dq (d, x) b = decide (24 < x) := by subst hd; unfold dq dpB; simp
theorem z00g (x : Nat) (b : Int) : dq (1, x) b = (decide (b + 1 > 24) || decide (24 < x)) := by unfold dq dpB; simp
theorem zhr (d : Nat × Nat) (b : Int) : (decide (b + 1 > 24) || dq (inr1 d) b) = dq (inr1 d) b := by
 unfold dq inr1 dpB
 rw [Bool.eq_iff_iff]
 simp only [Bool.or_eq_true, Bool.and_eq_true, decide_eq_true_eq]
 omega
mutual
theorem z08j : ∀ (s : z05) (b : Int), gS s = true → (sS (cS s) b 0).dp = dq (dS s) b
 | .mk k n t e c bo el ar, b, h => by
  simp only [gS] at h
  have hb := fun (g : gL bo = true) => zxx (f := fun q => sL (cL bo) q 0) b (fun q => zxy bo q g)
  have he := fun (g : gL el = true) => zxx (f := fun q => sL (cL el) q 0) b (fun q => zxy el q g)
  have ha := z075 ar b
  simp only [cS, sS, dS]
  by_cases h1 : k = 1
  ·subst h1
   simp only [show ((1 : Int) == 1) = true from rfl, if_true, Bool.true_or, Bool.and_eq_true] at h ⊢
   simp only [Wr.dp_app, zra _ _ h.2, dpB0, dq_x 0 _ _ rfl, wN, wW, Bool.false_or, Bool.or_false]
  have h1' : (k == 1) = false := by simpa using h1
  by_cases h2 : k = 2
  ·subst h2
   simp only [show ((2 : Int) == 1) = false from rfl, show ((2 : Int) == 4) = false from rfl, show ((2 : Int) == 2) = true from rfl, if_true, Bool.false_eq_true, if_false, Bool.or_self, Bool.and_eq_true] at h ⊢
   obtain ⟨g1, g2, g3⟩ := h
   simp only [Wr.dp_app, z047 _ _ g1, dpB0, hb g2, zut, z00g, wW, Bool.false_or]
   cases el with
   | nil =>
    simp only [cL, List.isEmpty_nil, if_true, Wr.nil, Bool.or_false, dL]
    rw [← zhr (dL bo) b]
    have : dq (inr1 (0, 0)) b = decide (b + 1 > 24) := by show dq (1, 0) b = _; rw [z00g]; simp
    rw [this]
    cases decide (b + 1 > 24) <;> cases decide (24 < dC c) <;> cases dq (inr1 (dL bo)) b <;> rfl
   | cons x r =>
    have hne : (cL (x :: r)).isEmpty = false := by simp only [cL]; rfl
    rw [hne]
    simp only [Bool.false_eq_true, if_false, Wr.dp_app, he g3, wW, Bool.false_or]
    rw [← zhr (dL bo) b]
    cases decide (b + 1 > 24) <;> cases decide (24 < dC c) <;> cases dq (inr1 (dL bo)) b <;> cases dq (inr1 (dL (x :: r))) b <;> rfl
  have h2' : (k == 2) = false := by simpa using h2
  by_cases h3 : k = 3
  ·subst h3
   simp only [show ((3 : Int) == 1) = false from rfl, show ((3 : Int) == 4) = false from rfl, show ((3 : Int) == 2) = false from rfl, show ((3 : Int) == 3) = true from rfl, if_true, Bool.false_eq_true, if_false, Bool.or_self, Bool.and_eq_true] at h ⊢
   obtain ⟨g1, g2⟩ := h
   simp only [Wr.dp_app, z047 _ _ g1, dpB0, hb g2, zut, z00g, wW, Bool.false_or]
   rw [← zhr (dL bo) b]
   cases decide (b + 1 > 24) <;> cases decide (24 < dC c) <;> cases dq (inr1 (dL bo)) b <;> rfl
  have h3' : (k == 3) = false := by simpa using h3
  by_cases h4 : k = 4
  ·subst h4
   simp only [show ((4 : Int) == 1) = false from rfl, show ((4 : Int) == 2) = false from rfl, show ((4 : Int) == 3) = false from rfl, show ((4 : Int) == 4) = true from rfl, if_true, Bool.false_eq_true, if_false, Bool.or_true, Bool.and_eq_true] at h ⊢
   simp only [Wr.dp_app, zra _ _ h.2.2, dpB0, dq_x 0 _ _ rfl, wN, wW, Bool.false_or, Bool.or_false]
  have h4' : (k == 4) = false := by simpa using h4
  by_cases h5 : k = 5
  ·subst h5
   simp only [show ((5 : Int) == 1) = false from rfl, show ((5 : Int) == 2) = false from rfl, show ((5 : Int) == 3) = false from rfl, show ((5 : Int) == 4) = false from rfl, show ((5 : Int) == 5) = true from rfl, if_true, Bool.false_eq_true, if_false, Bool.or_self, Bool.and_eq_true] at h ⊢
   obtain ⟨⟨g1, g2⟩, g3⟩ := h
   have hA := ha g3
   simp only [Wr.dp_app, hA, zut, z00g, wN, wW, wM, Bool.false_or, Bool.or_false]
   cases ar with
   | nil => cases g2
   | cons x r =>
    cases x with
    | mk t v bo' =>
     simp only [dA, zut]
     rw [← zhr (dL bo') b]
     have h0 : decide ((24 : Nat) < 0) = false := rfl
     rw [h0]
     cases decide (b + 1 > 24) <;> cases dq (inr1 (dL bo')) b <;> cases dq (dA r) b <;> rfl
  have h5' : (k == 5) = false := by simpa using h5
  by_cases h6 : k = 6
  ·subst h6
   simp only [show ((6 : Int) == 1) = false from rfl, show ((6 : Int) == 2) = false from rfl, show ((6 : Int) == 3) = false from rfl, show ((6 : Int) == 4) = false from rfl, show ((6 : Int) == 5) = false from rfl, show ((6 : Int) == 6) = true from rfl, if_true, Bool.false_eq_true, if_false, Bool.or_self] at h ⊢
   simp only [Wr.dp_app, z047 _ _ h, dpB0, dq_x 0 _ _ rfl, wW, Bool.false_or, Bool.or_false]
  have h6' : (k == 6) = false := by simpa using h6
  simp only [h1', h2', h3', h4', h5', h6', Bool.false_eq_true, if_false, Bool.or_self]
  split <;> simp [wW, wN, wM, dq, dpB]
theorem zxy : ∀ (l : List z05) (b : Int), gL l = true → (sL (cL l) b 0).dp = dq (dL l) b
 | [], b, h => by simp only [cL, sL, dL]; simp [Wr.nil, dq, dpB]
 | s :: r, b, h => by
  simp only [gL, Bool.and_eq_true] at h
  have h1 := z08j s b h.1
  have h2 := zxy r b h.2
  simp only [cL, sL, dL, Wr.dp_app, h1, h2, zut]
theorem z075 : ∀ (l : List z2h) (b : Int), gA l = true → (sA (cA l) b 0).dp = dq (dA l) b
 | [], b, h => by simp only [cA, sA, dA]; simp [Wr.nil, dq, dpB]
 | .mk t v bo :: r, b, h => by
  simp only [gA, Bool.and_eq_true] at h
  have h1 := fun q => zxy bo q h.1.2.2
  have h2 := z075 r b h.2
  have hB := zxx (f := fun q => sL (cL bo) q 0) b h1
  simp only [cA, sA, dA, Wr.dp_app, hB, h2, zut, wN, wW, Bool.false_or]
end
mutual
theorem z08k : ∀ s : z05, (dS s).1 ≤ szS (cS s) ∧ (dS s).2 ≤ 2 * szS (cS s)
 | .mk k n t e c bo el ar => by
  have h1 := zrb bo
  have h2 := zrb el
  have h3 := z076 ar
  have h4 := zn4 e
  have h5 := zn4 c.L
  have h6 := zn4 c.R
  have hz : szC (cC c) = 1 + szE (cE c.L) + szE (cE c.R) := rfl
  rw [z00d, hz]
  simp only [dS]
  have hc : dC c = max (dE c.L) (dE c.R) := rfl
  split
  ·simp only; omega
  ·split
   ·simp only [mx, inr1]; omega
   ·split
    ·simp only [mx, inr1]; omega
    ·split
     ·simp only [mx]; omega
     ·split
      ·simp only; omega
      ·simp only; omega
theorem zrb : ∀ l : List z05, (dL l).1 ≤ szL (cL l) ∧ (dL l).2 ≤ 2 * szL (cL l)
 | [] => by simp only [dL]; omega
 | s :: r => by
  have h1 := z08k s
  have h2 := zrb r
  simp only [dL, cL, szL, mx]; omega
theorem z076 : ∀ l : List z2h, (dA l).1 ≤ szA (cA l) ∧ (dA l).2 ≤ 2 * szA (cA l)
 | [] => by simp only [dA]; omega
 | .mk t v b :: r => by
  have h1 := zrb b
  have h2 := z076 r
  simp only [dA, cA, szA, mx, inr1]; omega
end
theorem zhs (x y z : Nat × Nat) : mx (mx x y) z = mx x (mx y z) := by simp only [mx, Nat.max_assoc]
theorem zn6 (x : Nat × Nat) : mx x (0, 0) = x := by simp [mx]
def zl7 : List (List z05) → Nat × Nat
 | [] => (0, 0)
 | l :: r => mx (inr1 (dL l)) (zl7 r)
/-- The loop over inner blocks. -/
theorem zii {F : List z05 → Option (Int × Int)} {body : Int × Int × Int → Option (Sum (Int × Int × Int) (Sum (Int × Int) (Int × Int)))} {v : List (List z05)} {n H : Nat}
  (hb : ∀ x, body x = if (decide (x.2.2 < (v.length : Int))) then (idx v x.2.2 >>= fun v7 => F v7 >>= fun v8 => some (.inl ((max x.1 (IntKind.i64.wrap (v8.1 + 1))), (max x.2.1 v8.2), (IntKind.i64.wrap (x.2.2 + 1))))) else (some (.inr (.inr (x.1, x.2.1)))))
  (hlen : v.length ≤ 400000000000) (hF : ∀ l ∈ v, Sn n H (F l) (((dL l).1 : Nat), ((dL l).2 : Nat)) ∧ (dL l).1 ≤ 800000000000) :
  ∀ (m : List (List z05)) (i : Nat) (d : Nat × Nat), v.drop i = m → i ≤ v.length → Sn n H (iter body ((d.1 : Nat), (d.2 : Nat), (i : Int))) (.inr (((mx d (zl7 m)).1 : Nat), ((mx d (zl7 m)).2 : Nat))) := by
 intro m
 induction m with
 | nil =>
  intro i d hd hi
  have : i = v.length := by have := List.drop_eq_nil_iff.1 hd; omega
  subst this
  refine .inl ?_
  rw [z3x (r := .inr ((d.1 : Nat), (d.2 : Nat))) (by rw [hb]; rw [if_neg (by simp)])]
  simp only [zl7, zn6]
 | cons x m ih =>
  intro i d hd hi
  have hlt : i < v.length := by
   refine Nat.lt_of_not_le fun h => ?_
   rw [List.drop_of_length_le h] at hd; cases hd
  rw [List.drop_eq_getElem_cons hlt] at hd
  injection hd with h1 h2
  have hi2 : idx v (i : Int) = some x := by rw [zf3 hlt, h1]
  have hm : x ∈ v := by rw [← h1]; exact List.getElem_mem hlt
  obtain ⟨f1, f2⟩ := hF x hm
  have h3 : Sn n H (body ((d.1 : Nat), (d.2 : Nat), (i : Int))) (.inl (((mx d (inr1 (dL x))).1 : Nat), ((mx d (inr1 (dL x))).2 : Nat), ((i + 1 : Nat) : Int))) := by
   rw [hb, if_pos (by simpa using hlt)]
   simp only [hi2, Option.bind_eq_bind, Option.bind_some, ze3 (i := i) (by omega)]
   refine Sn.bind (f := _) f1 (.inl ?_)
   rw [w64 (by omega) (by omega)]
   refine congrArg some (congrArg Sum.inl ?_)
   simp only [mx, inr1, Prod.mk.injEq]
   refine ⟨by omega, by omega, trivial⟩
  have h4 := ih (i + 1) (mx d (inr1 (dL x))) h2 hlt
  rw [z7m]
  refine Sn.bind (f := _) h3 ?_
  simp only [zl7, ← zhs]
  exact h4
theorem zlw : ∀ ar : List z2h, zl7 (ar.map (·.Body)) = dA ar
 | [] => by simp only [List.map_nil, zl7, dA]
 | .mk t v b :: r => by
  have := zlw r
  simp only [List.map_cons, zl7, dA, this]
  rfl
theorem zrc {F : List z05 → Option (Int × Int)} {v1 : z05} (hlen : v1.Arms.length ≤ 400000000000) : iter (z6w F v1) (0, []) = some (.inr (v1.Arms.map (·.Body))) :=
 zf7 (body := z6w F v1) (·.Body) v1.Arms hlen (fun i x acc hi hx hm ha hw => by
  unfold z6w
  rw [if_pos (by simpa using hi)]
  simp only [hx, Option.bind_eq_bind, Option.bind_some, hw]
  rw [z6m (by simp; omega)]
  rfl) (fun acc => by unfold z6w; rw [if_neg (by simp)])
theorem zxz : ∀ (N : Nat) (l : List z05), szL (cL l) ≤ N → N ≤ 400000000000 → gL l = true → okL (cL l) → ∀ n, Sn n (szL (cL l)) (z26 n l) ((((dL l).1 : Nat) : Int), (((dL l).2 : Nat) : Int)) := by
 intro N
 induction N with
 | zero => intro l hl; have := z4y (cL l); omega
 | succ N ih =>
  intro l hl hN hg ho n
  cases n with
  | zero => exact .inr ⟨rfl, z4y _⟩
  | succ n =>
   have hll := zsz l
   have hp := z4y (cL l)
   have main : ∀ (m : List z05) (i : Nat) (d : Nat × Nat), l.drop i = m → i ≤ l.length → Sn n (szL (cL l) - 1) (iter (z6x (z26 n) l) ((d.1 : Nat), (d.2 : Nat), (i : Int))) (.inr (((mx d (dL m)).1 : Nat), ((mx d (dL m)).2 : Nat))) := by
    intro m
    induction m with
    | nil =>
     intro i d hd hi
     have : i = l.length := by have := List.drop_eq_nil_iff.1 hd; omega
     subst this
     refine .inl ?_
     rw [z3x (r := .inr ((d.1 : Nat), (d.2 : Nat))) (by unfold z6x; rw [if_neg (by simp)])]
     simp only [dL, zn6]
    | cons x m ihm =>
     intro i d hd hi
     have hlt : i < l.length := by
      refine Nat.lt_of_not_le fun h => ?_
      rw [List.drop_of_length_le h] at hd; cases hd
     rw [List.drop_eq_getElem_cons hlt] at hd
     injection hd with h1 h2
     have hi2 : idx l (i : Int) = some x := by rw [zf3 hlt, h1]
     have hm : x ∈ l := by rw [← h1]; exact List.getElem_mem hlt
     obtain ⟨hoS, hz⟩ := zn1 ho hm
     have hgS : gS x = true := by rw [zt1] at hg; exact List.all_eq_true.1 hg x hm
     have h3 : Sn n (szL (cL l) - 1) (z6x (z26 n) l ((d.1 : Nat), (d.2 : Nat), (i : Int))) (.inl (((mx d (dS x)).1 : Nat), ((mx d (dS x)).2 : Nat), ((i + 1 : Nat) : Int))) := by
      obtain ⟨k, nm, tg, e, c, bo, el, ar⟩ := x
      rw [z00d] at hz
      simp only [cS, okS] at hoS
      obtain ⟨on, ot, oe, oc, ob, oel, oar⟩ := hoS
      simp only [gS] at hgS
      have hzc : szC (cC c) = 1 + szE (cE c.L) + szE (cE c.R) := rfl
      have p1 := z4y (cL bo)
      have p2 := z4y (cL el)
      have p3 := zgx (cA ar)
      have dl1 := zrb bo
      have dl2 := zrb el
      have fin : ∀ q : Nat × Nat, (some (Sum.inl (((q.1 : Nat) : Int), ((q.2 : Nat) : Int), IntKind.i64.wrap ((i : Int) + 1))) : Option (Sum (Int × Int × Int) (Sum (Int × Int) (Int × Int)))) = some (.inl (((q.1 : Nat) : Int), ((q.2 : Nat) : Int), ((i + 1 : Nat) : Int))) := fun q => by rw [ze3 (i := i) (by omega)]
      have u3 : iter (zbg (z26 n)) () = some (.inr ()) := z3x (by rfl)
      have u4 : iter (zbh (z26 n)) () = some (.inr ()) := z3x (by rfl)
      have u9 : iter (zbl (z26 n)) () = some (.inr ()) := z3x (by rfl)
      have u10 : iter (zat (z26 n)) () = some (.inr ()) := z3x (by rfl)
      unfold z6x
      rw [if_pos (by simpa using hlt), hi2]
      simp only [Option.bind_eq_bind, Option.bind_some, u3, u4, u9, u10, Sum.elim_inr]
      dsimp only [z05.Kind, z05.E, z05.C, z05.Body, z05.Else]
      by_cases h1 : k = 1
      ·subst h1
       simp only [show ((1 : Int) == 1) = true from rfl, if_true, Bool.and_eq_true] at hgS
       refine .inl ?_
       simp only [Int.reduceBEq, if_true, Bool.false_eq_true, if_false]
       rw [ziu hgS.2 (by omega)]
       simp only [Option.bind_some]
       rw [ze3 (i := i) (by omega)]
       simp only [dS, show ((1 : Int) == 1) = true from rfl, Bool.true_or, if_true, mx]
       refine congrArg some (congrArg Sum.inl ?_)
       simp only [Prod.mk.injEq]; refine ⟨by omega, by omega, trivial⟩
      have z1 : (k == 1) = false := by simpa using h1
      simp only [z1, Bool.false_eq_true, if_false]
      by_cases h4 : k = 4
      ·subst h4
       simp only [show ((4 : Int) == 1) = false from rfl, show ((4 : Int) == 2) = false from rfl, show ((4 : Int) == 3) = false from rfl, show ((4 : Int) == 4) = true from rfl, if_true, Bool.false_eq_true, if_false, Bool.and_eq_true] at hgS
       refine .inl ?_
       simp only [Int.reduceBEq, if_true, Bool.false_eq_true, if_false]
       rw [ziu hgS.2.2 (by omega)]
       simp only [Option.bind_some]
       rw [ze3 (i := i) (by omega)]
       simp only [dS, show ((4 : Int) == 4) = true from rfl, Bool.or_true, if_true, mx]
       refine congrArg some (congrArg Sum.inl ?_)
       simp only [Prod.mk.injEq]; refine ⟨by omega, by omega, trivial⟩
      have z4 : (k == 4) = false := by simpa using h4
      simp only [z4, Bool.false_eq_true, if_false]
      by_cases h2 : k = 2
      ·subst h2
       simp only [show ((2 : Int) == 1) = false from rfl, show ((2 : Int) == 2) = true from rfl, if_true, Bool.false_eq_true, if_false, Bool.and_eq_true] at hgS
       obtain ⟨g1, g2, g3⟩ := hgS
       have gl := g1
       unfold gC at gl
       simp only [Bool.and_eq_true] at gl
       simp only [Int.reduceBEq, if_true, Bool.false_eq_true, if_false]
       rw [z6m (by simp), ziu gl.2.1 (by omega), ziu gl.2.2 (by omega)]
       simp only [Option.bind_some, List.nil_append, Option.bind_assoc]
       have fb := (ih bo (by omega) (by omega) g2 ob n).mono (show szL (cL bo) ≤ szL (cL l) - 1 by omega)
       have fe := (ih el (by omega) (by omega) g3 oel n).mono (show szL (cL el) ≤ szL (cL l) - 1 by omega)
       have lp := zii (F := z26 n) (body := zbi (z26 n) [bo, el]) (v := [bo, el]) (n := n) (H := szL (cL l) - 1) (fun x => rfl) (by simp)
        (fun y hy => by
         simp only [List.mem_cons, List.not_mem_nil, or_false] at hy
         rcases hy with rfl | rfl
         ·exact ⟨fb, by omega⟩
         ·exact ⟨fe, by omega⟩) [bo, el] 0 (mx d (1, dC c)) rfl (by omega)
       have est : ((max ((d.1 : Nat) : Int) 1, max (max ((d.2 : Nat) : Int) ((dE c.L : Nat) : Int)) ((dE c.R : Nat) : Int), (0 : Int)) : Int × Int × Int) = ((((mx d (1, dC c)).1 : Nat) : Int), (((mx d (1, dC c)).2 : Nat) : Int), ((0 : Nat) : Int)) := by
        simp only [mx, dC, Prod.mk.injEq]; refine ⟨by omega, by omega, rfl⟩
       rw [est]
       refine Sn.bind (f := _) lp (.inl ?_)
       simp only [Sum.elim_inr, Option.bind_some]
       rw [ze3 (i := i) (by omega)]
       simp only [dS, show ((2 : Int) == 1) = false from rfl, show ((2 : Int) == 4) = false from rfl, show ((2 : Int) == 2) = true from rfl, Bool.or_self, Bool.false_eq_true, if_false, if_true, zl7, zn6, zhs]
      have z2 : (k == 2) = false := by simpa using h2
      simp only [z2, Bool.false_eq_true, if_false]
      by_cases h3 : k = 3
      ·subst h3
       simp only [show ((3 : Int) == 1) = false from rfl, show ((3 : Int) == 2) = false from rfl, show ((3 : Int) == 3) = true from rfl, if_true, Bool.false_eq_true, if_false, Bool.and_eq_true] at hgS
       obtain ⟨g1, g2⟩ := hgS
       have gl := g1
       unfold gC at gl
       simp only [Bool.and_eq_true] at gl
       simp only [Int.reduceBEq, if_true, Bool.false_eq_true, if_false]
       rw [z6m (by simp), ziu gl.2.1 (by omega), ziu gl.2.2 (by omega)]
       simp only [Option.bind_some, List.nil_append, Option.bind_assoc]
       have fb := (ih bo (by omega) (by omega) g2 ob n).mono (show szL (cL bo) ≤ szL (cL l) - 1 by omega)
       have lp := zii (F := z26 n) (body := zbj (z26 n) [bo]) (v := [bo]) (n := n) (H := szL (cL l) - 1) (fun x => rfl) (by simp)
        (fun y hy => by
         simp only [List.mem_cons, List.not_mem_nil, or_false] at hy
         subst hy
         exact ⟨fb, by omega⟩) [bo] 0 (mx d (1, dC c)) rfl (by omega)
       have est : ((max ((d.1 : Nat) : Int) 1, max (max ((d.2 : Nat) : Int) ((dE c.L : Nat) : Int)) ((dE c.R : Nat) : Int), (0 : Int)) : Int × Int × Int) = ((((mx d (1, dC c)).1 : Nat) : Int), (((mx d (1, dC c)).2 : Nat) : Int), ((0 : Nat) : Int)) := by
        simp only [mx, dC, Prod.mk.injEq]; refine ⟨by omega, by omega, rfl⟩
       rw [est]
       refine Sn.bind (f := _) lp (.inl ?_)
       simp only [Sum.elim_inr, Option.bind_some]
       rw [ze3 (i := i) (by omega)]
       simp only [dS, show ((3 : Int) == 1) = false from rfl, show ((3 : Int) == 4) = false from rfl, show ((3 : Int) == 2) = false from rfl, show ((3 : Int) == 3) = true from rfl, Bool.or_self, Bool.false_eq_true, if_false, if_true, zl7, zn6, zhs]
      have z3 : (k == 3) = false := by simpa using h3
      simp only [z3, Bool.false_eq_true, if_false]
      by_cases h5 : k = 5
      ·subst h5
       simp only [show ((5 : Int) == 1) = false from rfl, show ((5 : Int) == 2) = false from rfl, show ((5 : Int) == 3) = false from rfl, show ((5 : Int) == 4) = false from rfl, show ((5 : Int) == 5) = true from rfl, if_true, Bool.false_eq_true, if_false, Bool.and_eq_true] at hgS
       obtain ⟨g1, g2⟩ := hgS
       have hal := zoz ar
       simp only [Int.reduceBEq, if_true, Bool.false_eq_true, if_false]
       rw [zrc (v1 := .mk 5 nm tg e c bo el ar) (by show ar.length ≤ _; omega)]
       simp only [Option.bind_some, Sum.elim_inr, Option.bind_assoc]
       dsimp only [z05.Arms]
       have lp := zii (F := z26 n) (body := zbk (z26 n) (ar.map (·.Body))) (v := ar.map (·.Body)) (n := n) (H := szL (cL l) - 1) (fun x => rfl) (by rw [List.length_map]; omega)
        (fun y hy => by
         obtain ⟨a, ha, rfl⟩ := List.mem_map.1 hy
         obtain ⟨_, _, o3, z3⟩ := zhp oar a ha
         have ga : gAr a = true := by rw [zt2] at g2; exact List.all_eq_true.1 g2 a ha
         unfold gAr at ga
         simp only [Bool.and_eq_true] at ga
         have := zrb a.Body
         exact ⟨(ih a.Body (by omega) (by omega) ga.2.2 o3 n).mono (by omega), by omega⟩) _ 0 (mx d (1, 0)) rfl (by omega)
       have est : ((max ((d.1 : Nat) : Int) 1, ((d.2 : Nat) : Int), (0 : Int)) : Int × Int × Int) = ((((mx d (1, 0)).1 : Nat) : Int), (((mx d (1, 0)).2 : Nat) : Int), ((0 : Nat) : Int)) := by
        simp only [mx, Prod.mk.injEq]; refine ⟨by omega, by omega, rfl⟩
       rw [est]
       refine Sn.bind (f := _) lp (.inl ?_)
       simp only [Sum.elim_inr, Option.bind_some]
       rw [ze3 (i := i) (by omega), List.drop_zero, zlw]
       simp only [dS, show ((5 : Int) == 1) = false from rfl, show ((5 : Int) == 4) = false from rfl, show ((5 : Int) == 2) = false from rfl, show ((5 : Int) == 3) = false from rfl, show ((5 : Int) == 5) = true from rfl, Bool.or_self, Bool.false_eq_true, if_false, if_true, zhs]
      have z5 : (k == 5) = false := by simpa using h5
      simp only [z5, Bool.false_eq_true, if_false]
      by_cases h6 : k = 6
      ·subst h6
       simp only [show ((6 : Int) == 1) = false from rfl, show ((6 : Int) == 2) = false from rfl, show ((6 : Int) == 3) = false from rfl, show ((6 : Int) == 4) = false from rfl, show ((6 : Int) == 5) = false from rfl, show ((6 : Int) == 6) = true from rfl, if_true, Bool.false_eq_true, if_false] at hgS
       have gl := hgS
       unfold gC at gl
       simp only [Bool.and_eq_true] at gl
       refine .inl ?_
       simp only [Int.reduceBEq, if_true, Bool.false_eq_true, if_false]
       rw [ziu gl.2.1 (by omega), ziu gl.2.2 (by omega)]
       simp only [Option.bind_some]
       rw [ze3 (i := i) (by omega)]
       simp only [dS, show ((6 : Int) == 1) = false from rfl, show ((6 : Int) == 4) = false from rfl, show ((6 : Int) == 2) = false from rfl, show ((6 : Int) == 3) = false from rfl, show ((6 : Int) == 5) = false from rfl, show ((6 : Int) == 6) = true from rfl, Bool.or_self, Bool.false_eq_true, if_false, if_true, mx, dC]
       refine congrArg some (congrArg Sum.inl ?_)
       simp only [Prod.mk.injEq]; refine ⟨by omega, by omega, trivial⟩
      have z6 : (k == 6) = false := by simpa using h6
      simp only [z6, Bool.false_eq_true, if_false]
      refine .inl ?_
      simp only [Option.bind_some]
      rw [ze3 (i := i) (by omega)]
      simp only [dS, mx]
      have q1 : (k == 1) = false := by simpa using h1
      have q2 : (k == 2) = false := by simpa using h2
      have q3 : (k == 3) = false := by simpa using h3
      have q4 : (k == 4) = false := by simpa using h4
      have q5 : (k == 5) = false := by simpa using h5
      have q6 : (k == 6) = false := by simpa using h6
      simp only [q1, q2, q3, q4, q5, q6, Bool.or_self, Bool.false_eq_true, if_false]
      refine congrArg some (congrArg Sum.inl ?_)
      simp only [Prod.mk.injEq]; refine ⟨by omega, by omega, trivial⟩
     have h4 := ihm (i + 1) (mx d (dS x)) h2 hlt
     rw [z7m]
     refine Sn.bind (f := _) h3 ?_
     simp only [dL, ← zhs]
     exact h4
   have h0 := main l 0 (0, 0) rfl (by omega)
   have e0 : mx (0, 0) (dL l) = dL l := by simp [mx]
   rw [e0] at h0
   have t2 := (Sn.bind (f := Sum.elim (fun _ => none) (fun j1 => some (j1.1, j1.2))) h0 (t := ((((dL l).1 : Nat) : Int), (((dL l).2 : Nat) : Int))) (.inl rfl)).up
   exact t2.mono (by omega)
theorem z00h {l : List z05} (hg : gL l = true) (ho : okL (cL l)) (h : szL (cL l) ≤ 400000000000) : zi2 l = some ((((dL l).1 : Nat) : Int), (((dL l).2 : Nat) : Int)) := Sn.unf fun n => zxz _ l (Nat.le_refl _) h hg ho n
end Go.Proofs.YtokjbpmjdcbogaaGreatDoor.Abs.Wri
/- Of the reference: the words are those that the writer puts. -/
namespace Go.Proofs.YtokjbpmjdcbogaaGreatDoor.Abs.Wri
open Go Go.RowKit
set_option linter.unusedVariables false
set_option linter.unusedSimpArgs false
/-! ### Numbers -/
theorem z08l (u : Nat) (h : u ≤ 9223372036854775807) : quo .i64 (u : Int) 10 = some ((u / 10 : Nat) : Int) := by
 unfold quo
 rw [if_neg (by omega)]
 have e : (u : Int).tdiv 10 = ((u / 10 : Nat) : Int) := by rw [Int.tdiv_eq_ediv_of_nonneg (by omega)]; simp
 rw [e, w64 (by omega) (by omega)]
theorem z08m (u : Nat) : rem (u : Int) 10 = some ((u % 10 : Nat) : Int) := by
 unfold rem
 rw [if_neg (by omega)]
 have e : (u : Int).tmod 10 = ((u % 10 : Nat) : Int) := by rw [Int.tmod_eq_emod_of_nonneg (by omega)]; simp
 rw [e]
theorem z077 (u : Nat) : strOfNums [IntKind.u8.wrap (IntKind.i64.wrap (48 + ((u % 10 : Nat) : Int)))] = bA [UInt8.ofNat (48 + u % 10)] := by
 rw [w64 (by omega) (by omega), w8u (by omega) (by omega)]
 show ByteArray.mk [UInt8.ofNat ((48 + ((u % 10 : Nat) : Int))).toNat].toArray = _
 rw [show ((48 + ((u % 10 : Nat) : Int))).toNat = 48 + u % 10 by omega]
 rfl
theorem zy0 (c : UInt8) (s : List UInt8) : ((bA (c :: s)).toList == (ByteArray.mk #[]).toList) = false := by
 have e1 : ∀ l, (bA l).toList = l := fun l => by rw [Go.ByteArray.toList_eq]; rfl
 have e2 : (ByteArray.mk #[]).toList = [] := e1 []
 rw [e1, e2]; rfl
section
variable {F : z09 → Option (List ByteArray)} {G : z09 → Bool → Option (List ByteArray)}
theorem zp1 {c : UInt8} {s : List UInt8} : z36 F G (bA (c :: s), 0) = some (.inr (.inr (bA (c :: s)))) := by
 unfold z36
 show ((if decide ((0 : Int) > 0) = true then some true else some ((bA (c :: s)).toList == (ByteArray.mk #[]).toList)) >>= _) = _
 rw [if_neg (by decide), zy0, sb]
 rfl
theorem zp2 {u : Nat} {s : List UInt8} (hu : u ≤ 9223372036854775807) (hs : s.length ≤ 1000) (h : 0 < u ∨ s = []) : z36 F G (bA s, (u : Int)) = some (.inl (bA (UInt8.ofNat (48 + u % 10) :: s), ((u / 10 : Nat) : Int))) := by
 have hc : (if decide ((u : Int) > 0) = true then some true else some ((bA s).toList == (ByteArray.mk #[]).toList)) = some true := by
  rcases h with h | rfl
  ·rw [if_pos (by simpa using h)]
  ·split
   ·rfl
   ·exact congrArg some (eqT _)
 unfold z36
 simp only [hc, sb, if_true, z08m, z08l u hu, z077]
 rw [z02a (by simp; omega)]
 rfl
theorem z01k : ∀ (k u : Nat) (s : List UInt8), u < 10 ^ k → u ≤ 9223372036854775807 → s.length + k ≤ 1000 → (0 < u ∨ s = []) → iter (z36 F G) (bA s, (u : Int)) = some (.inr (bA (Lib.decDigits u ++ s)))
 | 0, u, s, h0, hu, hl, h => by
  have : u = 0 := by simpa using h0
  subst this
  rcases h with h | rfl
  ·omega
  ·rw [z7m, zp2 (u := 0) (by omega) (by simp) (.inr rfl)]
   show iter (z36 F G) (_, 0) = _
   rw [z7m, zp1]
   rw [Lib.decDigits, dif_pos (by omega)]
   rfl
 | k + 1, u, s, h0, hu, hl, h => by
  rw [z7m, zp2 hu (by omega) h]
  show iter (z36 F G) (_, ((u / 10 : Nat) : Int)) = _
  by_cases hb : u < 10
  ·rw [show u / 10 = 0 by omega]
   show iter (z36 F G) (_, 0) = _
   rw [z7m, zp1, Lib.decDigits, dif_pos hb, show u % 10 = u by omega]
   rfl
  ·rw [z01k k (u / 10) _ (by rw [Nat.pow_succ] at h0; omega) (by omega) (by simp; omega) (.inl (by omega))]
   rw [Lib.decDigits.eq_def u, dif_neg hb]
   simp
theorem z08n {n : Int} (h : za0 n = true) : iter (z36 F G) (ByteArray.mk #[], n) = some (.inr (ze1 n)) := by
 unfold za0 at h
 simp only [Bool.and_eq_true, decide_eq_true_eq] at h
 have := z01k (F := F) (G := G) 20 n.toNat [] (by have : (10 : Nat) ^ 20 = 100000000000000000000 := (by decide); omega) (by omega) (by simp) (.inr rfl)
 rw [List.append_nil, show ((n.toNat : Nat) : Int) = n by omega] at this
 show iter (z36 F G) (bA [], n) = _
 rw [this]
 unfold ze1 Lib.itoa
 rw [if_neg (by omega)]
 rfl
end
/-! ### Expressions -/
def inW (m : Bool) (w : List ByteArray) : List ByteArray := if m then (ByteArray.mk #[40]) :: w ++ [ByteArray.mk #[41]] else w
theorem zlx (m : Bool) (f : Int → Wr) (p : Int) (w : List ByteArray) (h : ∀ q, (f q).ws = w) : (inP m f p).ws = inW m w := by
 unfold inP inW
 cases m <;> simp [wW, wD, h]
theorem zl8 : ∀ (e : z03) (p q : Int), (sE e p).ws = (sE e q).ws
 | ⟨k, n, s, []⟩, p, q => by simp only [sE]
 | ⟨k, n, s, [x]⟩, p, q => by
  have hx := zl8 x
  simp only [sE]
  split
  ·simp only [Wr.ws_app, zlx _ _ _ (sE x 0).ws (fun q => hx q 0)]
   simp [wW, wD]
  ·rfl
 | ⟨k, n, s, [l, r]⟩, p, q => by
  have hl := zl8 l
  have hr := zl8 r
  simp only [sE]
  split
  ·simp only [Wr.ws_app, zlx _ _ _ (sE l 0).ws (fun q => hl q 0), zlx _ _ _ (sE r 0).ws (fun q => hr q 0)]
  ·rfl
 | ⟨k, n, s, a :: b :: c :: l⟩, p, q => by simp only [sE]
def eW (e : z09) : List ByteArray := (sE (cE e) 0).ws
theorem zkk (e : z09) : (eW e).length ≤ 5 * szE (cE e) := zkh _ _
theorem zrd (m : Bool) (w : List ByteArray) : (inW m w).length ≤ w.length + 2 := by unfold inW; split <;> simp
theorem z65 {a b : List ByteArray} (h : a.length + b.length ≤ 8000000000000) : app 16 a b = some (a ++ b) := z6m (by omega)
theorem z048 {e : z09} {m : Bool} {n h : Nat} (k : ∀ n, Sn n h (z3f n e) (eW e)) (hz : szE (cE e) ≤ 400000000000) : Sn n (h + 1) (zai n e m) (inW m (eW e)) := by
 cases n with
 | zero => exact .inr ⟨rfl, by omega⟩
 | succ n =>
  have hl := zkk e
  simp only [zai, Option.bind_eq_bind]
  refine (Sn.bind (f := _) (k n) (.inl ?_)).up
  cases m with
  | false => rfl
  | true =>
   simp only [if_true]
   rw [z65 (by simp; omega)]
   simp only [Option.bind_some]
   rw [z65 (by simp; omega)]
   rfl
theorem zcn : ∀ e : z09, gE e = true → szE (cE e) ≤ 400000000000 → ∀ n, Sn n (2 * szE (cE e)) (z3f n e) (eW e)
 | ⟨k, m, s, []⟩, h, hz, n => by
  cases n with
  | zero => exact .inr ⟨rfl, by have := z8i (cE ⟨k, m, s, []⟩); omega⟩
  | succ n =>
   refine .inl ?_
   simp only [gE] at h
   simp only [z3f, eW, cE, cEs, sE, zcs]
   by_cases h1 : k = 1
   ·subst h1
    rw [if_pos (by decide)] at h
    rw [if_pos (by decide), z08n h]
    rfl
   ·rw [if_neg (by simpa using h1)] at h
    simp only [Bool.and_eq_true, beq_iff_eq] at h
    obtain ⟨rfl, h2⟩ := h
    rfl
 | ⟨k, m, s, [x]⟩, h, hz, n => by
  simp only [gE, Bool.and_eq_true, beq_iff_eq] at h
  obtain ⟨rfl, h⟩ := h
  simp only [cE, cEs, szE, szEs] at hz
  have hx := zcn x h (by omega)
  have hl := zkk x
  have hl2 := zrd (z6o x.Kind) (eW x)
  cases n with
  | zero => exact .inr ⟨rfl, by have := z8i (cE ⟨3, m, s, [x]⟩); omega⟩
  | succ n =>
   have e4 : idx [x] 0 = some x := rfl
   simp only [z3f, show ((3 : Int) == 1) = false from rfl, show ((3 : Int) == 2) = false from rfl, show ((3 : Int) == 3) = true from rfl, Bool.false_eq_true, if_false, if_true, e4, zl6, Option.bind_eq_bind, Option.bind_some]
   refine (Sn.bind (f := _) (z048 (m := z6o x.Kind) (n := n) hx (by omega)) (.inl ?_)).up.mono (by simp only [cE, cEs, szE, szEs]; omega)
   rw [z65 (by simp; omega)]
   refine congrArg some ?_
   simp only [eW, cE, cEs, sE, show ((3 : Int) == 3) = true from rfl, if_true, Wr.ws_app, zlx _ _ _ (sE (cE x) 0).ws (fun q => zl8 _ q 0), zih]
   rfl
 | ⟨k, m, s, [l, r]⟩, h, hz, n => by
  simp only [gE, Bool.and_eq_true] at h
  obtain ⟨hk, h1, h2⟩ := h
  simp only [cE, cEs, szE, szEs] at hz
  have hl := zcn l h1 (by omega)
  have hr := zcn r h2 (by omega)
  have ll := zkk l
  have lr := zkk r
  have ll2 := zrd (zn2 k l.Kind) (eW l)
  have lr2 := zrd (zhq k r.Kind) (eW r)
  cases n with
  | zero => exact .inr ⟨rfl, by have := z8i (cE ⟨k, m, s, [l, r]⟩); omega⟩
  | succ n =>
   have q1 : (k == 1) = false := by rw [beq_eq_false_iff_ne]; rintro rfl; cases hk
   have q2 : (k == 2) = false := by rw [beq_eq_false_iff_ne]; rintro rfl; cases hk
   have q3 : (k == 3) = false := by rw [beq_eq_false_iff_ne]; rintro rfl; cases hk
   have e4 : idx [l, r] 0 = some l := rfl
   have e5 : idx [l, r] 1 = some r := rfl
   have eL := z01j (e := ⟨k, m, s, [l, r]⟩) (x := l) hk
   have eR := zt3 (e := ⟨k, m, s, [l, r]⟩) (x := r) hk
   simp only [z3f, q1, q2, q3, Bool.false_eq_true, if_false, e4, e5, Option.bind_eq_bind, Option.bind_some, eL, eR, z005 hk]
   have hH : ∀ z : Nat, z + 1 ≤ 2 * szE (cE ⟨k, m, s, [l, r]⟩) - 1 → z + 1 ≤ 2 * szE (cE ⟨k, m, s, [l, r]⟩) - 1 := fun _ h => h
   refine (Sn.bind (f := _) ((z048 (m := zn2 k l.Kind) (n := n) hl (by omega)).mono (show 2 * szE (cE l) + 1 ≤ 2 * szE (cE ⟨k, m, s, [l, r]⟩) - 1 by simp only [cE, cEs, szE, szEs]; omega)) ?_).up.mono (by have := z8i (cE ⟨k, m, s, [l, r]⟩); omega)
   rw [z65 (by simp; omega)]
   simp only [Option.bind_some]
   refine Sn.bind (f := _) ((z048 (m := zhq k r.Kind) (n := n) hr (by omega)).mono (show 2 * szE (cE r) + 1 ≤ 2 * szE (cE ⟨k, m, s, [l, r]⟩) - 1 by simp only [cE, cEs, szE, szEs]; omega)) (.inl ?_)
   rw [z65 (by simp; omega)]
   refine congrArg some ?_
   simp only [eW, cE, cEs, sE, hk, if_true, Wr.ws_app, zlx _ _ _ (sE (cE l) 0).ws (fun q => zl8 _ q 0), zlx _ _ _ (sE (cE r) 0).ws (fun q => zl8 _ q 0), zih, wW, zn2, zhq, List.append_assoc]
 | ⟨k, m, s, a :: b :: c :: l⟩, h, hz, n => by simp only [gE] at h; cases h
theorem zcc {e : z09} (h : gE e = true) (hz : szE (cE e) ≤ 400000000000) : z6y e = some (eW e) := Sn.unf fun n => zcn e h hz n
theorem zn7 {n : Int} (h : za0 n = true) : zaj n = some (ze1 n) := by
 unfold zaj
 rw [zcc (e := ⟨1, n, ByteArray.mk #[], []⟩) (by simp only [gE]; simpa using h) (by simp [cE, cEs, szE, szEs])]
 rfl
def cW (c : z3z) : List ByteArray := (sC (cC c) 0).ws
theorem z078 (c : z3z) : (cW c).length ≤ 5 * szC (cC c) := z01d _ _
theorem zgy {c : z3z} (h : gC c = true) (hz : szC (cC c) ≤ 400000000000) : z6z c = some (cW c) := by
 unfold gC at h
 simp only [Bool.and_eq_true] at h
 have hc : szC (cC c) = 1 + szE (cE c.L) + szE (cE c.R) := rfl
 have l1 := zkk c.L
 have l2 := zkk c.R
 unfold z6z
 rw [zcc h.2.1 (by omega), zcc h.2.2 (by omega), z06y h.1]
 simp only [Option.bind_eq_bind, Option.bind_some]
 rw [z65 (by simp; omega)]
 simp only [Option.bind_some]
 rw [z65 (by simp; omega)]
 simp only [Option.bind_some]
 rw [z65 (by simp; omega)]
 simp only [Option.bind_some]
 rw [z65 (by simp; omega)]
 simp only [Option.bind_some]
 refine congrArg some ?_
 simp only [cW, cC, sC, Wr.ws_app, h.1, if_true, wW, eW, List.append_assoc]
/-! ### Loops that put words -/
def z78 {β : Type} (g : Nat → β → List ByteArray) : Nat → List β → List ByteArray
 | _, [] => []
 | i, x :: r => g i x ++ z78 g (i + 1) r
theorem zcy {β : Type} (g : Nat → β → Wr) : ∀ (l : List β) (i : Nat), (z6n g i l).ws = z78 (fun i x => (g i x).ws) i l
 | [], i => rfl
 | x :: r, i => by simp only [z6n, z78, Wr.ws_app, zcy g r (i + 1)]
theorem z5k {β : Type} {g g' : Nat → β → List ByteArray} : ∀ (l : List β) (i : Nat), (∀ i, ∀ x ∈ l, g i x = g' i x) → z78 g i l = z78 g' i l
 | [], i, h => rfl
 | x :: r, i, h => by simp only [z78, h i x List.mem_cons_self, z5k r (i + 1) fun i y hy => h i y (List.mem_cons_of_mem _ hy)]
theorem zdi {β γ : Type} (f : β → γ) (g : Nat → γ → List ByteArray) : ∀ (l : List β) (i : Nat), z78 g i (l.map f) = z78 (fun i x => g i (f x)) i l
 | [], i => rfl
 | x :: r, i => by simp only [List.map_cons, z78, zdi f g r (i + 1)]
theorem zn8 {β X O : Type} {body : X → Option (Sum X O)} {n H : Nat} (l : List β) (g : Nat → β → List ByteArray) (c : β → Nat) (M : Nat) (mk : Nat → List ByteArray → X) (out : List ByteArray → O) (hlen : l.length ≤ 4611686018427387904) (hg : ∀ i x, x ∈ l → (g i x).length ≤ c x)
  (hs : ∀ (i : Nat) x acc, idx l (i : Int) = some x → x ∈ l → i < l.length → IntKind.i64.wrap ((i : Int) + 1) = ((i + 1 : Nat) : Int) → acc.length + c x ≤ M → Sn n H (body (mk i acc)) (.inl (mk (i + 1) (acc ++ g i x))))
  (he : ∀ acc, body (mk l.length acc) = some (.inr (out acc))) :
  ∀ (m : List β) (i : Nat) (acc : List ByteArray), l.drop i = m → i ≤ l.length → acc.length + sumN c m ≤ M → Sn n H (iter body (mk i acc)) (out (acc ++ z78 g i m)) := by
 intro m
 induction m with
 | nil =>
  intro i acc hd hi hM
  have : i = l.length := by have := List.drop_eq_nil_iff.1 hd; omega
  subst this
  exact .inl (by rw [z3x (he acc)]; simp [z78])
 | cons x m ih =>
  intro i acc hd hi hM
  have hlt : i < l.length := by
   refine Nat.lt_of_not_le fun h => ?_
   rw [List.drop_of_length_le h] at hd; cases hd
  rw [List.drop_eq_getElem_cons hlt] at hd
  injection hd with h1 h2
  simp only [sumN] at hM
  have hm : x ∈ l := by rw [← h1]; exact List.getElem_mem hlt
  have h3 := hs i x acc (by rw [zf3 hlt, h1]) hm hlt (ze3 (by omega)) (by omega)
  have hgl := hg i x hm
  have h4 := ih (i + 1) (acc ++ g i x) h2 hlt (by rw [List.length_append]; omega)
  rw [z7m]
  refine Sn.bind (f := _) h3 ?_
  simpa [z78] using h4
theorem zbu {β O : Type} {body : Int × List ByteArray → Option (Sum (Int × List ByteArray) O)} (l : List β) (g : Nat → β → List ByteArray) (c : β → Nat) (M : Nat) (out : List ByteArray → O) (hlen : l.length ≤ 4611686018427387904) (hg : ∀ i x, x ∈ l → (g i x).length ≤ c x)
  (hs : ∀ (i : Nat) x acc, idx l (i : Int) = some x → x ∈ l → i < l.length → IntKind.i64.wrap ((i : Int) + 1) = ((i + 1 : Nat) : Int) → acc.length + c x ≤ M → body ((i : Int), acc) = some (.inl (((i + 1 : Nat) : Int), acc ++ g i x)))
  (he : ∀ acc, body ((l.length : Int), acc) = some (.inr (out acc))) (acc : List ByteArray) (hM : acc.length + sumN c l ≤ M) : iter body (0, acc) = some (out (acc ++ z78 g 0 l)) := by
 rcases zn8 (n := 0) (H := 0) l g c M (fun i acc => ((i : Int), acc)) out hlen hg (fun i x acc h1 h2 h3 h4 h5 => .inl (hs i x acc h1 h2 h3 h4 h5)) he l 0 acc rfl (by omega) hM with h | ⟨_, h⟩
 ·exact h
 ·omega
/-! ### Statements -/
theorem zht (f : Int → Wr) (b : Int) (w : List ByteArray) (h : ∀ q, (f q).ws = w) : (inB f b).ws = (ByteArray.mk #[123]) :: w ++ [ByteArray.mk #[125]] := by unfold inB; simp [wW, wD, h]
theorem z049 (c : z2n) (p q : Int) : (sC c p).ws = (sC c q).ws := by
 unfold sC; simp only [Wr.ws_app, zl8 c.L p q, zl8 c.R p q]
mutual
theorem z08o : ∀ (s : z02) (b p b' p' : Int), (sS s b p).ws = (sS s b' p').ws
 | .mk k n t e c bo el ar, b, p, b', p' => by
  have h1 := fun b p => zy1 bo b p 0 0
  have h2 := fun b p => zy1 el b p 0 0
  have h3 := z079 ar b p b' p'
  simp only [sS]
  split
  ·simp only [Wr.ws_app, zl8 e p p']
  ·split
   ·simp only [Wr.ws_app, z049 c p p', zht _ _ _ (fun q => h1 q p), zht _ _ _ (fun q => h1 q p')]
    split
    ·rfl
    ·simp only [Wr.ws_app, zht _ _ _ (fun q => h2 q p), zht _ _ _ (fun q => h2 q p')]
   ·split
    ·simp only [Wr.ws_app, z049 c p p', zht _ _ _ (fun q => h1 q p), zht _ _ _ (fun q => h1 q p')]
    ·split
     ·simp only [Wr.ws_app, zl8 e p p']
     ·split
      ·simp only [Wr.ws_app, h3]
      ·split
       ·simp only [Wr.ws_app, z049 c p p']
       ·rfl
theorem zy1 : ∀ (l : List z02) (b p b' p' : Int), (sL l b p).ws = (sL l b' p').ws
 | [], b, p, b', p' => by simp only [sL]
 | s :: r, b, p, b', p' => by simp only [sL, Wr.ws_app, z08o s b p b' p', zy1 r b p b' p']
theorem z079 : ∀ (l : List z0n) (b p b' p' : Int), (sA l b p).ws = (sA l b' p').ws
 | [], b, p, b', p' => by simp only [sA]
 | .mk t v bo :: r, b, p, b', p' => by
  have h1 := fun b p => zy1 bo b p 0 0
  simp only [sA, Wr.ws_app, zht _ _ _ (fun q => h1 q p), zht _ _ _ (fun q => h1 q p'), z079 r b p b' p']
end
def stW (s : z05) : List ByteArray := (sS (cS s) 0 0).ws
def lW (l : List z05) : List ByteArray := (sL (cL l) 0 0).ws
def blW (l : List z05) : List ByteArray := (ByteArray.mk #[123]) :: lW l ++ [ByteArray.mk #[125]]
def arW (x : z2h) : List ByteArray := [x.Tag, ByteArray.mk #[40], x.Var, ByteArray.mk #[41]] ++ blW x.Body
theorem zy2 (l : List z05) : (lW l).length ≤ 5 * szL (cL l) := zlu _ _ _
theorem z04a (l : z05) : (stW l).length ≤ 5 * szS (cS l) := z01e _ _ _
theorem zn9 (l : List z05) : (blW l).length ≤ 5 * szL (cL l) + 2 := by have := zy2 l; unfold blW; simp; omega
theorem zy3 : ∀ (l : List z05) (i : Nat), lW l = z78 (fun _ s => stW s) i l
 | [], i => by simp only [lW, cL, sL, z78]; rfl
 | s :: r, i => by
  have := zy3 r (i + 1)
  simp only [z78, ← this]
  simp only [lW, cL, sL, Wr.ws_app, stW]
theorem zt4 (l : List z05) (b p : Int) : (inB (fun q => sL (cL l) q p) b).ws = blW l := zht _ _ _ (fun q => zy1 _ _ _ 0 0)
theorem zre : ∀ (l : List z2h) (i : Nat), (sA (cA l) 0 0).ws = z78 (fun _ x => arW x) i l
 | [], i => by simp only [cA, sA, z78]; rfl
 | .mk t v b :: r, i => by
  have := zre r (i + 1)
  simp only [z78, ← this, cA, sA, Wr.ws_app, zt4]
  simp [arW, wN, wW, z2h.Tag, z2h.Var, z2h.Body]
theorem zy4 : ∀ l : List z05, sumN (fun s => szS (cS s)) l + 1 = szL (cL l)
 | [] => by simp only [sumN, cL, szL]
 | s :: r => by have := zy4 r; simp only [sumN, cL, szL]; omega
theorem zy5 : ∀ l : List z2h, sumN (fun x => 2 + szL (cL x.Body)) l + 1 = szA (cA l)
 | [] => by simp only [sumN, cA, szA]
 | .mk t v b :: r => by have := zy5 r; simp only [sumN, cA, szA]; show 2 + szL (cL b) + _ + 1 = _; omega
theorem zjd {l : List z05} {n h : Nat} (k : ∀ n, Sn n h (z3g n l) (lW l)) (hz : szL (cL l) ≤ 400000000000) : Sn n (h + 1) (z5v n l) (blW l) := by
 cases n with
 | zero => exact .inr ⟨rfl, by omega⟩
 | succ n =>
  have hl := zy2 l
  simp only [z5v, Option.bind_eq_bind]
  refine (Sn.bind (f := _) (k n) (.inl ?_)).up
  rw [z65 (by simp; omega)]
  simp only [Option.bind_some]
  rw [z65 (by simp; omega)]
  rfl
theorem zp3 : ∀ (N : Nat) (l : List z05), szL (cL l) ≤ N → N ≤ 400000000000 → gL l = true → okL (cL l) → ∀ n, Sn n (2 * szL (cL l)) (z3g n l) (lW l) := by
 intro N
 induction N with
 | zero => intro l hl; have := z4y (cL l); omega
 | succ N ih =>
  intro l hl hN hg ho n
  cases n with
  | zero => exact .inr ⟨rfl, by have := z4y (cL l); omega⟩
  | succ n =>
   have hll := zsz l
   have hp := z4y (cL l)
   have hsum := zy4 l
   have hsum5 : sumN (fun s => 5 * szS (cS s)) l = 5 * sumN (fun s => szS (cS s)) l := ze4 5 _ l
   have h := zn8 (n := n) (H := 2 * szL (cL l) - 1) (body := z69 (z3g n) (z5v n) l) l (fun _ s => stW s) (fun s => 5 * szS (cS s)) 4000000000000 (fun i acc => ((i : Int), acc)) (fun acc => .inr acc) (by omega) (fun i x _ => z04a x)
    (fun i x acc hx hm hlt hw hM => by
     obtain ⟨hoS, hz⟩ := zn1 ho hm
     have hgS : gS x = true := by rw [zt1] at hg; exact List.all_eq_true.1 hg x hm
     obtain ⟨k, nm, tg, e, c, bo, el, ar⟩ := x
     rw [z00d] at hz hM
     simp only [cS, okS] at hoS
     obtain ⟨on, ot, oe, oc, ob, oel, oar⟩ := hoS
     simp only [gS] at hgS
     have hzc : szC (cC c) = 1 + szE (cE c.L) + szE (cE c.R) := rfl
     have p1 := z4y (cL bo)
     have p2 := z4y (cL el)
     have p3 := zgx (cA ar)
     have l1 := zkk e
     have l2 := z078 c
     have l3 := zn9 bo
     have l4 := zn9 el
     unfold z69
     rw [if_pos (by simpa using hlt), hx]
     simp only [Option.bind_eq_bind, Option.bind_some, hw]
     dsimp only [z05.Kind, z05.Name, z05.Tag, z05.E, z05.C, z05.Body]
     have fin : ∀ w : List ByteArray, w = stW (.mk k nm tg e c bo el ar) → (some (Sum.inl (((i + 1 : Nat) : Int), acc ++ w)) : Option (Sum (Int × List ByteArray) (Sum (List ByteArray) (List ByteArray)))) = some (.inl (((i + 1 : Nat) : Int), acc ++ stW (.mk k nm tg e c bo el ar))) := fun w hw => by rw [hw]
     by_cases h1 : k = 1
     ·subst h1
      simp only [show ((1 : Int) == 1) = true from rfl, if_true, Bool.and_eq_true] at hgS ⊢
      refine .inl ?_
      rw [z65 (by simp; omega)]
      simp only [Option.bind_some]
      rw [zcc hgS.2 (by omega)]
      simp only [Option.bind_some]
      rw [z65 (by simp; omega)]
      simp only [Option.bind_some]
      rw [z65 (by simp; omega)]
      simp only [Option.bind_some, List.append_assoc]
      refine fin _ ?_
      simp only [stW, cS, sS, show ((1 : Int) == 1) = true from rfl, if_true, Wr.ws_app, wN, wW]
      rfl
     have z1 : (k == 1) = false := by simpa using h1
     simp only [z1, Bool.false_eq_true, if_false] at hgS ⊢
     by_cases h2 : k = 2
     ·subst h2
      simp only [show ((2 : Int) == 2) = true from rfl, if_true, Bool.and_eq_true] at hgS ⊢
      obtain ⟨g1, g2, g3⟩ := hgS
      have fb := (zjd (n := n) (ih bo (by omega) (by omega) g2 ob) (by omega)).mono (show 2 * szL (cL bo) + 1 ≤ 2 * szL (cL l) - 1 by omega)
      have fe := (zjd (n := n) (ih el (by omega) (by omega) g3 oel) (by omega)).mono (show 2 * szL (cL el) + 1 ≤ 2 * szL (cL l) - 1 by omega)
      rw [z65 (by simp; omega)]
      simp only [Option.bind_some]
      rw [zgy g1 (by omega)]
      simp only [Option.bind_some]
      rw [z65 (by simp; omega)]
      simp only [Option.bind_some, Option.bind_assoc]
      refine Sn.bind (f := _) fb ?_
      rw [z65 (by simp; omega)]
      simp only [Option.bind_some]
      have hS : stW (.mk 2 nm tg e c bo el ar) = [ByteArray.mk #[105, 102]] ++ (cW c ++ (blW bo ++ (if (cL el).isEmpty then [] else [ByteArray.mk #[101, 108, 115, 101]] ++ blW el))) := by
       simp only [stW, cS, sS, show ((2 : Int) == 1) = false from rfl, show ((2 : Int) == 2) = true from rfl, Bool.false_eq_true, if_false, if_true, Wr.ws_app, zt4, cW, wW]
       split
       ·rfl
       ·simp only [Wr.ws_app, zt4]
      cases hel : el with
      | nil =>
       have hneg : decide ((((z05.mk 2 nm tg e c bo [] ar).Else.length : Nat) : Int) > 0) = false := rfl
       simp only [hneg, Bool.false_eq_true, if_false, Option.bind_some, List.append_assoc]
       refine .inl ?_
       rw [hel] at fin hS
       refine fin _ ?_
       rw [hS]
       simp only [cL, List.isEmpty_nil, if_true, List.append_nil]
      | cons y r =>
       have hpos : decide ((((z05.mk 2 nm tg e c bo (y :: r) ar).Else.length : Nat) : Int) > 0) = true := by show decide ((((y :: r).length : Nat) : Int) > 0) = true; simp only [List.length_cons, decide_eq_true_eq]; omega
       simp only [hpos, if_true]
       rw [hel] at fe fin hS l4 hM
       rw [z65 (by simp; omega)]
       simp only [Option.bind_some, Option.bind_assoc]
       refine Sn.bind (f := _) fe (.inl ?_)
       rw [z65 (by simp; omega)]
       simp only [Option.bind_some, List.append_assoc]
       refine fin _ ?_
       rw [hS]
       have : (cL (y :: r)).isEmpty = false := by simp only [cL]; rfl
       simp only [this, Bool.false_eq_true, if_false]
     have z2 : (k == 2) = false := by simpa using h2
     simp only [z2, Bool.false_eq_true, if_false] at hgS ⊢
     by_cases h3 : k = 3
     ·subst h3
      simp only [show ((3 : Int) == 3) = true from rfl, if_true, Bool.and_eq_true] at hgS ⊢
      obtain ⟨g1, g2⟩ := hgS
      have fb := (zjd (n := n) (ih bo (by omega) (by omega) g2 ob) (by omega)).mono (show 2 * szL (cL bo) + 1 ≤ 2 * szL (cL l) - 1 by omega)
      rw [z65 (by simp; omega)]
      simp only [Option.bind_some]
      rw [zgy g1 (by omega)]
      simp only [Option.bind_some]
      rw [z65 (by simp; omega)]
      simp only [Option.bind_some, Option.bind_assoc]
      refine Sn.bind (f := _) fb (.inl ?_)
      rw [z65 (by simp; omega)]
      simp only [Option.bind_some, List.append_assoc]
      refine fin _ ?_
      simp only [stW, cS, sS, show ((3 : Int) == 1) = false from rfl, show ((3 : Int) == 2) = false from rfl, show ((3 : Int) == 3) = true from rfl, Bool.false_eq_true, if_false, if_true, Wr.ws_app, zt4, cW, wW]
     have z3 : (k == 3) = false := by simpa using h3
     simp only [z3, Bool.false_eq_true, if_false] at hgS ⊢
     by_cases h4 : k = 4
     ·subst h4
      simp only [show ((4 : Int) == 4) = true from rfl, if_true, Bool.and_eq_true] at hgS ⊢
      refine .inl ?_
      rw [z65 (by simp; omega)]
      simp only [Option.bind_some]
      rw [zcc hgS.2.2 (by omega)]
      simp only [Option.bind_some]
      rw [z65 (by simp; omega)]
      simp only [Option.bind_some]
      rw [z65 (by simp; omega)]
      simp only [Option.bind_some, List.append_assoc]
      refine fin _ ?_
      simp only [stW, cS, sS, show ((4 : Int) == 1) = false from rfl, show ((4 : Int) == 2) = false from rfl, show ((4 : Int) == 3) = false from rfl, show ((4 : Int) == 4) = true from rfl, Bool.false_eq_true, if_false, if_true, Wr.ws_app, wN, wW]
      rfl
     have z4 : (k == 4) = false := by simpa using h4
     simp only [z4, Bool.false_eq_true, if_false] at hgS ⊢
     by_cases h5 : k = 5
     ·subst h5
      simp only [show ((5 : Int) == 5) = true from rfl, if_true, Bool.and_eq_true] at hgS ⊢
      obtain ⟨⟨g1, g2⟩, g3⟩ := hgS
      have hal := zoz ar
      have hsa := zy5 ar
      have hsa5 : sumN (fun x : z2h => 5 * (2 + szL (cL x.Body))) ar = 5 * sumN (fun x : z2h => 2 + szL (cL x.Body)) ar := ze4 5 _ ar
      rw [z65 (by simp; omega)]
      simp only [Option.bind_some, Option.bind_assoc]
      have lp := zn8 (n := n) (H := 2 * szL (cL l) - 1) (body := z68 (z3g n) (z5v n) (.mk 5 nm tg e c bo el ar)) ar (fun _ x => arW x) (fun x => 5 * (2 + szL (cL x.Body))) 5000000000000 (fun i acc => ((i : Int), acc)) (fun acc => .inr acc) (by omega) (fun i x _ => by have := zn9 x.Body; unfold arW; simp; omega)
       (fun j y ac hy hym hyl hyw hyM => by
        obtain ⟨o1, o2, o3, z3⟩ := zhp oar y hym
        have ga : gAr y = true := by rw [zt2] at g3; exact List.all_eq_true.1 g3 y hym
        unfold gAr at ga
        simp only [Bool.and_eq_true] at ga
        have fb := (zjd (n := n) (ih y.Body (by omega) (by omega) ga.2.2 o3) (by omega)).mono (show 2 * szL (cL y.Body) + 1 ≤ 2 * szL (cL l) - 1 by omega)
        have lb := zn9 y.Body
        unfold z68
        rw [if_pos (by show decide ((j : Int) < (ar.length : Int)) = true; simpa using hyl)]
        dsimp only [z05.Arms]
        simp only [hy, Option.bind_eq_bind, Option.bind_some, hyw]
        rw [z65 (by simp; omega)]
        simp only [Option.bind_some]
        refine Sn.bind (f := _) fb (.inl ?_)
        rw [z65 (by simp; omega)]
        simp only [Option.bind_some, List.append_assoc]
        rfl)
       (fun ac => by unfold z68; rw [if_neg (by simp [z05.Arms])]) ar 0 (acc ++ [ByteArray.mk #[114, 101, 99, 118], nm, ByteArray.mk #[123]]) rfl (by omega) (by simp; omega)
      refine Sn.bind (f := _) lp (.inl ?_)
      have hlen : (z78 (fun _ x => arW x) 0 ar).length ≤ 5 * szA (cA ar) := by
       rw [← zre]; exact zxm _ _ _
      simp only [Sum.elim_inr]
      rw [z65 (by simp; omega)]
      simp only [Option.bind_some, List.append_assoc]
      refine fin _ ?_
      simp only [stW, cS, sS, show ((5 : Int) == 1) = false from rfl, show ((5 : Int) == 2) = false from rfl, show ((5 : Int) == 3) = false from rfl, show ((5 : Int) == 4) = false from rfl, show ((5 : Int) == 5) = true from rfl, Bool.false_eq_true, if_false, if_true, Wr.ws_app, zre ar 0, wN, wW, wM]
      rfl
     have z5 : (k == 5) = false := by simpa using h5
     simp only [z5, Bool.false_eq_true, if_false] at hgS ⊢
     by_cases h6 : k = 6
     ·subst h6
      simp only [show ((6 : Int) == 6) = true from rfl, if_true] at hgS ⊢
      refine .inl ?_
      rw [z65 (by simp; omega)]
      simp only [Option.bind_some]
      rw [zgy hgS (by omega)]
      simp only [Option.bind_some]
      rw [z65 (by simp; omega)]
      simp only [Option.bind_some]
      rw [z65 (by simp; omega)]
      simp only [Option.bind_some, List.append_assoc]
      refine fin _ ?_
      simp only [stW, cS, sS, show ((6 : Int) == 1) = false from rfl, show ((6 : Int) == 2) = false from rfl, show ((6 : Int) == 3) = false from rfl, show ((6 : Int) == 4) = false from rfl, show ((6 : Int) == 5) = false from rfl, show ((6 : Int) == 6) = true from rfl, Bool.false_eq_true, if_false, if_true, Wr.ws_app, cW, wW]
     have z6 : (k == 6) = false := by simpa using h6
     simp only [z6, Bool.false_eq_true, if_false] at hgS ⊢
     by_cases h7 : k = 7
     ·subst h7
      refine .inl ?_
      simp only [Int.reduceBEq, if_true]
      rw [z65 (by simp; omega)]
      simp only [Option.bind_some]
      refine fin _ ?_
      simp only [stW, cS, sS, show ((7 : Int) == 1) = false from rfl, show ((7 : Int) == 2) = false from rfl, show ((7 : Int) == 3) = false from rfl, show ((7 : Int) == 4) = false from rfl, show ((7 : Int) == 5) = false from rfl, show ((7 : Int) == 6) = false from rfl, show ((7 : Int) == 7) = true from rfl, Bool.false_eq_true, if_false, if_true, Wr.ws_app, wN, wW]
      try rfl
     have z7 : (k == 7) = false := by simpa using h7
     simp only [z7, Bool.false_eq_true, if_false] at hgS
     )
    (fun acc => by unfold z69; rw [if_neg (by simp)]) l 0 [] rfl (by omega) (by simp; omega)
   rw [List.nil_append, ← zy3] at h
   have t2 := (Sn.bind (f := Sum.elim (fun _ => none) (fun j1 => some j1)) h (t := lW l) (.inl rfl)).up
   exact t2.mono (by omega)
theorem zrf {l : List z05} (hg : gL l = true) (ho : okL (cL l)) (h : szL (cL l) ≤ 400000000000) : zdu l = some (lW l) := Sn.unf fun n => zp3 _ l (Nat.le_refl _) h hg ho n
/-! ### Systems -/
def ziv (p : z4q) : Bool := !dq (dL p.Body) 0
theorem zfm {β : Type} {g : Nat → β → Wr} : ∀ {l : List β} {i : Nat}, (∀ i, ∀ x ∈ l, (g i x).dp = false) → (z6n g i l).dp = false
 | [], i, h => rfl
 | x :: r, i, h => by simp only [z6n, Wr.dp_app, h i x List.mem_cons_self, zfm fun i y hy => h i y (List.mem_cons_of_mem _ hy), Bool.or_self]
theorem z04b (s : z16) (hg : gSys s = true) : (sSys (cSys s)).dp = !s.Procs.all ziv := by
 unfold gSys at hg
 simp only [Bool.and_eq_true, List.all_eq_true] at hg
 unfold sSys
 simp only [cSys, Wr.dp_app]
 have e1 : (z6n (fun _ => sCh) 0 (s.Chans.map cCh)).dp = false := zfm fun i c hc => by
  have ht : (z6n wTag 0 c.Tags).dp = false := zfm fun i x _ => by unfold wTag; split <;> simp [wN, wW]
  unfold sCh
  simp only [Wr.dp_app, ht]
  cases kindOk c.Kind <;> simp [wW, wN, wI, wM]
 have e2 : (z6n (fun _ => sR) 0 (s.Rules.map cRu)).dp = false := zfm fun i c hc => by
  have ht : (z6n zhk 0 c.Moves).dp = false := zfm fun i x _ => by simp [zhk, wI, wN, wW]
  unfold sR
  simp only [Wr.dp_app, ht]
  simp [wW, wN]
 have e3 : (z6n (fun _ => sP) 0 (s.Procs.map cPr)).dp = !s.Procs.all ziv := by
  have : ∀ (l : List z4q) (i : Nat), (∀ p ∈ l, gP p = true) → (z6n (fun _ => sP) i (l.map cPr)).dp = !l.all ziv := by
   intro l
   induction l with
   | nil => intro i _; rfl
   | cons p r ih =>
    intro i h
    have hp := h p List.mem_cons_self
    unfold gP at hp
    simp only [Bool.and_eq_true] at hp
    have ht : (z6n wVar 0 p.Vars).dp = false := zfm fun i x _ => by simp [wVar, wN, wW]
    have hd : (sP (cPr p)).dp = !ziv p := by
     simp only [sP, cPr, Wr.dp_app, ht, zxy p.Body 0 hp.2.1, ziv]
     simp [wW, wN]
    simp only [List.map_cons, z6n, Wr.dp_app, hd, ih (i + 1) (fun q hq => h q (List.mem_cons_of_mem _ hq)), List.all_cons, Bool.not_and]
  exact this s.Procs 0 hg.2.2
 rw [e1, e2, e3]; rfl
def tagG (i : Nat) (t : ByteArray) : List ByteArray := if i = 0 then [t] else [ByteArray.mk #[44], t]
theorem z01l (i : Nat) (t : ByteArray) : (wTag i t).ws = tagG i t := by unfold wTag tagG; split <;> rfl
def chG (c : z5b) : List ByteArray := [ByteArray.mk #[99, 104, 97, 110], c.Name, zmg c.Kind, ze1 c.Size, ByteArray.mk #[102, 114, 111, 109], c.From, ByteArray.mk #[116, 111], c.To, ByteArray.mk #[123]] ++ (z78 tagG 0 c.Tags ++ [ByteArray.mk #[125], ByteArray.mk #[59]])
theorem z04c {c : z5b} (h : kindOk c.Kind = true) : (sCh (cCh c)).ws = chG c := by
 unfold sCh chG
 simp only [Wr.ws_app, cCh, h, if_true, zcy, z5k (g' := tagG) c.Tags 0 (fun i x _ => z01l i x)]
 simp [wW, wN, wI, wM]
def moG (m : z7j) : List ByteArray := [ze1 m.From, m.Tag, ze1 m.To, ByteArray.mk #[59]]
def ruG (r : z5p) : List ByteArray := [ByteArray.mk #[114, 117, 108, 101], r.Chan, ByteArray.mk #[123]] ++ (z78 (fun _ m => moG m) 0 r.Moves ++ [ByteArray.mk #[125]])
theorem z04d (r : z5p) : (sR (cRu r)).ws = ruG r := by
 unfold sR ruG
 have h : z78 (fun i x => (zhk i (cMo x)).ws) 0 r.Moves = z78 (fun _ m => moG m) 0 r.Moves := z5k _ _ (fun i x _ => rfl)
 simp only [Wr.ws_app, cRu, zcy, zdi, h]
 simp [wW, wN]
def vaG (v : ByteArray) : List ByteArray := [ByteArray.mk #[118, 97, 114], v, ByteArray.mk #[59]]
def prG (p : z4q) : List ByteArray := [ByteArray.mk #[112, 114, 111, 99], p.Name, ByteArray.mk #[123]] ++ (z78 (fun _ v => vaG v) 0 p.Vars ++ (lW p.Body ++ [ByteArray.mk #[125]]))
theorem z07a (p : z4q) : (sP (cPr p)).ws = prG p := by
 unfold sP prG
 have h : z78 (fun i x => (wVar i x).ws) 0 p.Vars = z78 (fun _ v => vaG v) 0 p.Vars := z5k _ _ (fun i x _ => rfl)
 simp only [Wr.ws_app, cPr, zcy, h, lW]
 simp [wW, wN]
theorem z04e {s : z16} (hg : gSys s = true) : (sSys (cSys s)).ws = z78 (fun _ c => chG c) 0 s.Chans ++ (z78 (fun _ r => ruG r) 0 s.Rules ++ z78 (fun _ p => prG p) 0 s.Procs) := by
 unfold gSys at hg
 simp only [Bool.and_eq_true, List.all_eq_true] at hg
 unfold sSys
 simp only [Wr.ws_app, cSys, zcy, zdi]
 rw [z5k (g' := fun _ c => chG c) s.Chans 0 (fun i c hc => z04c (by have := hg.1 c hc; unfold gCh at this; simp only [Bool.and_eq_true] at this; exact this.2.2.2.1)),
  z5k (g' := fun _ r => ruG r) s.Rules 0 (fun i r _ => z04d r), z5k (g' := fun _ p => prG p) s.Procs 0 (fun i p _ => z07a p)]
theorem z00i (l : List ByteArray) : sumN (fun _ : ByteArray => 2) l = 2 * l.length := zaq 2 l
theorem z038 {s : z16} (ho : zqs (cSys s)) (hs : za8 (cSys s) ≤ 400000000000) : zeq s = some (endW (sSys (cSys s))) := by
 obtain ⟨l1, l2, l3⟩ := lens s
 unfold zeq
 rw [z045 ho hs]
 simp only [Option.bind_eq_bind, Option.bind_some]
 have hbad := z00f s
 cases hg : gSys s with
 | false =>
  rw [hg] at hbad
  simp only [Bool.not_false, if_true]
  unfold endW
  rw [hbad]; rfl
 | true =>
  rw [hg] at hbad
  have hdp := z04b s hg
  have hws := z04e hg
  have hlen := z007 (cSys s)
  have hg' := hg
  unfold gSys at hg'
  simp only [Bool.and_eq_true, List.all_eq_true] at hg'
  obtain ⟨gc, gr, gp⟩ := hg'
  simp only [Bool.not_true, Bool.false_eq_true, if_false]
  rw [z8p (body := z9j s) s.Procs ziv ([], 6) (by omega) (fun i x h0 h1 hm hlt hw => by
   obtain ⟨o1, o2, o3⟩ := z043 ho hm
   have o3' : okL (cL x.Body) := o3
   have hz := z044 hm
   have gx := gp x hm
   unfold gP at gx
   simp only [Bool.and_eq_true] at gx
   unfold z9j
   rw [if_pos (by simpa using hlt), h1]
   simp only [Option.bind_eq_bind, Option.bind_some]
   rw [z00h gx.2.1 o3' (by omega)]
   simp only [Option.bind_some, hw, ziv, dq, dpB0]
   have q1 : decide ((((dL x.Body).1 : Nat) : Int) > 24) = decide (24 < (dL x.Body).1) := decide_eq_decide.mpr (by omega)
   have q2 : decide ((((dL x.Body).2 : Nat) : Int) > 24) = decide (24 < (dL x.Body).2) := decide_eq_decide.mpr (by omega)
   rw [q1, q2]
   cases decide (24 < (dL x.Body).1) <;> cases decide (24 < (dL x.Body).2) <;> rfl) (by unfold z9j; rw [if_neg (by simp)])]
  simp only [Option.bind_some]
  cases hd : s.Procs.all ziv with
  | false =>
   rw [hd] at hdp
   simp only [Bool.false_eq_true, if_false, Sum.elim_inl]
   unfold endW
   rw [hbad, hdp]; rfl
  | true =>
   rw [hd] at hdp
   simp only [if_true, Sum.elim_inr]
   have s1 := ze4 5 szCh (cSys s).Chans
   have s2 := ze4 5 szR (cSys s).Rules
   have s3 := ze4 5 szP (cSys s).Procs
   have hsz : za8 (cSys s) = sumN szCh (cSys s).Chans + sumN szR (cSys s).Rules + sumN szP (cSys s).Procs := rfl
   have t1 : sumN (fun c : z5b => 5 * szCh (cCh c)) s.Chans = 5 * sumN szCh (cSys s).Chans := by rw [← s1]; exact (zcl (fun c => 5 * szCh c) cCh s.Chans).symm
   have t2 : sumN (fun c : z5p => 5 * szR (cRu c)) s.Rules = 5 * sumN szR (cSys s).Rules := by rw [← s2]; exact (zcl (fun c => 5 * szR c) cRu s.Rules).symm
   have t3 : sumN (fun c : z4q => 5 * szP (cPr c)) s.Procs = 5 * sumN szP (cSys s).Procs := by rw [← s3]; exact (zcl (fun c => 5 * szP c) cPr s.Procs).symm
   have chl : ∀ c ∈ s.Chans, (chG c).length ≤ 5 * szCh (cCh c) := fun c hc => by
    rw [← z04c (by have := gc c hc; unfold gCh at this; simp only [Bool.and_eq_true] at this; exact this.2.2.2.1)]; exact zr5 _
   have rul : ∀ c : z5p, (ruG c).length ≤ 5 * szR (cRu c) := fun c => by rw [← z04d]; exact zxo _
   have prl : ∀ c : z4q, (prG c).length ≤ 5 * szP (cPr c) := fun c => by rw [← z07a]; exact z01f _
   rw [zbu (body := z9l s) s.Chans (fun _ c => chG c) (fun c => 5 * szCh (cCh c)) 4000000000000 (fun acc => .inr acc) (by omega) (fun i x hx => chl x hx)
    (fun i x acc hx hm hlt hw hM => by
     have gx := gc x hm
     unfold gCh at gx
     simp only [Bool.and_eq_true] at gx
     have hz2 : szCh (cCh x) = 3 + x.Tags.length := rfl
     have htg : (z78 tagG 0 x.Tags).length ≤ 2 * x.Tags.length := by
      have := zsw x.Tags 0
      rwa [zcy, z5k (g' := tagG) x.Tags 0 (fun i x _ => z01l i x)] at this
     have ht := zbu (body := z9k x) x.Tags tagG (fun _ => 2) 5000000000000 (fun acc => .inr acc) (by omega) (fun i y _ => by unfold tagG; split <;> simp)
      (fun j y ac hy hym hyl hyw hyM => by
       unfold z9k
       rw [if_pos (by simpa using hyl)]
       simp only [hy, Option.bind_eq_bind, Option.bind_some, hyw]
       by_cases hj : j = 0
       ·subst hj
        rw [if_neg (by simp), z65 (by simp; omega)]
        rfl
       ·rw [if_pos (by simp; omega), z65 (by simp; omega)]
        simp only [Option.bind_some]
        rw [z65 (by simp; omega)]
        unfold tagG
        rw [if_neg hj]
        simp)
      (fun ac => by unfold z9k; rw [if_neg (by simp)]) (acc ++ [ByteArray.mk #[99, 104, 97, 110], x.Name, zmg x.Kind, ze1 x.Size, ByteArray.mk #[102, 114, 111, 109], x.From, ByteArray.mk #[116, 111], x.To, ByteArray.mk #[123]]) (by rw [z00i]; simp; omega)
     unfold z9l
     rw [if_pos (by simpa using hlt)]
     simp only [hx, Option.bind_eq_bind, Option.bind_some]
     rw [z006 gx.2.2.2.1, zn7 gx.2.2.2.2.1]
     simp only [Option.bind_some]
     rw [z65 (by simp; omega)]
     simp only [Option.bind_some]
     rw [ht]
     simp only [Option.bind_some, Sum.elim_inr]
     rw [z65 (by simp; omega)]
     simp only [Option.bind_some, hw, chG, List.append_assoc])
    (fun acc => by unfold z9l; rw [if_neg (by simp)]) [] (by simp; omega)]
   simp only [Option.bind_some, Sum.elim_inr, List.nil_append]
   have c1 : (z78 (fun _ c => chG c) 0 s.Chans).length ≤ 5 * sumN szCh (cSys s).Chans := by
    have := congrArg List.length hws
    have h1 := za7 (g := fun _ => sCh) (c := fun c => 5 * szCh c) (l := (cSys s).Chans) (i := 0) (fun i x _ => zr5 x)
    rw [zcy, s1] at h1
    simp only [cSys, zdi] at h1
    rw [z5k (g' := fun _ c => chG c) s.Chans 0 (fun i c hc => z04c (by have := gc c hc; unfold gCh at this; simp only [Bool.and_eq_true] at this; exact this.2.2.2.1))] at h1
    exact h1
   have c2 : (z78 (fun _ r => ruG r) 0 s.Rules).length ≤ 5 * sumN szR (cSys s).Rules := by
    have h1 := za7 (g := fun _ => sR) (c := fun c => 5 * szR c) (l := (cSys s).Rules) (i := 0) (fun i x _ => zxo x)
    rw [zcy, s2] at h1
    simp only [cSys, zdi] at h1
    rw [z5k (g' := fun _ r => ruG r) s.Rules 0 (fun i r _ => z04d r)] at h1
    exact h1
   rw [zbu (body := z9n s) s.Rules (fun _ c => ruG c) (fun c => 5 * szR (cRu c)) 4000000000000 (fun acc => .inr acc) (by omega) (fun i x hx => rul x)
    (fun i x acc hx hm hlt hw hM => by
     have gx := gr x hm
     unfold gR at gx
     simp only [Bool.and_eq_true, List.all_eq_true] at gx
     have hz2 : szR (cRu x) = 1 + (x.Moves.map cMo).length := rfl
     rw [List.length_map] at hz2
     have hml : (z78 (fun _ m => moG m) 0 x.Moves).length ≤ 4 * x.Moves.length := by
      have := zow (x.Moves.map cMo) 0
      have h : z78 (fun i x => (zhk i (cMo x)).ws) 0 x.Moves = z78 (fun _ m => moG m) 0 x.Moves := z5k _ _ (fun i x _ => rfl)
      rwa [zcy, zdi, List.length_map, h] at this
     have ht := zbu (body := z9m s ((i : Int), acc)) x.Moves (fun _ m => moG m) (fun _ => 4) 5000000000000 (fun acc => .inr acc) (by omega) (fun i y _ => by simp [moG])
      (fun j y ac hy hym hyl hyw hyM => by
       have gy := gx.2 y hym
       unfold gMo at gy
       simp only [Bool.and_eq_true] at gy
       unfold z9m
       simp only [hx, Option.bind_eq_bind, Option.bind_some]
       rw [if_pos (by simpa using hyl)]
       simp only [hy, Option.bind_some]
       rw [zn7 gy.1, zn7 gy.2.1]
       simp only [Option.bind_some]
       rw [z65 (by simp; omega)]
       simp only [Option.bind_some, hyw, moG])
      (fun ac => by unfold z9m; simp only [hx, Option.bind_eq_bind, Option.bind_some]; rw [if_neg (by simp)]) (acc ++ [ByteArray.mk #[114, 117, 108, 101], x.Chan, ByteArray.mk #[123]]) (by rw [zaq 4]; simp; omega)
     unfold z9n
     rw [if_pos (by simpa using hlt)]
     simp only [hx, Option.bind_eq_bind, Option.bind_some]
     rw [z65 (by simp; omega)]
     simp only [Option.bind_some]
     rw [ht]
     simp only [Option.bind_some, Sum.elim_inr]
     rw [z65 (by simp; omega)]
     simp only [Option.bind_some, hw, ruG, List.append_assoc])
    (fun acc => by unfold z9n; rw [if_neg (by simp)]) _ (by omega)]
   simp only [Option.bind_some, Sum.elim_inr]
   rw [zbu (body := z9p s) s.Procs (fun _ c => prG c) (fun c => 5 * szP (cPr c)) 4000000000000 (fun acc => .inr acc) (by omega) (fun i x hx => prl x)
    (fun i x acc hx hm hlt hw hM => by
     obtain ⟨o1, o2, o3⟩ := z043 ho hm
     have o3' : okL (cL x.Body) := o3
     have hz := z044 hm
     have gx := gp x hm
     unfold gP at gx
     simp only [Bool.and_eq_true, List.all_eq_true] at gx
     have hz2 : szP (cPr x) = 1 + x.Vars.length + szL (cL x.Body) := rfl
     have hvl : (z78 (fun _ v => vaG v) 0 x.Vars).length ≤ 3 * x.Vars.length := by
      have := zsv x.Vars 0
      have h : z78 (fun i x => (wVar i x).ws) 0 x.Vars = z78 (fun _ v => vaG v) 0 x.Vars := z5k _ _ (fun i x _ => rfl)
      rwa [zcy, h] at this
     have hbl := zy2 x.Body
     have ht := zbu (body := z9o x) x.Vars (fun _ v => vaG v) (fun _ => 3) 5000000000000 (fun acc => .inr acc) (by omega) (fun i y _ => by simp [vaG])
      (fun j y ac hy hym hyl hyw hyM => by
       unfold z9o
       rw [if_pos (by simpa using hyl)]
       simp only [hy, Option.bind_eq_bind, Option.bind_some]
       rw [z65 (by simp; omega)]
       simp only [Option.bind_some, hyw, vaG])
      (fun ac => by unfold z9o; rw [if_neg (by simp)]) (acc ++ [ByteArray.mk #[112, 114, 111, 99], x.Name, ByteArray.mk #[123]]) (by rw [zaq 3]; simp; omega)
     unfold z9p
     rw [if_pos (by simpa using hlt)]
     simp only [hx, Option.bind_eq_bind, Option.bind_some]
     rw [z65 (by simp; omega)]
     simp only [Option.bind_some]
     rw [ht]
     simp only [Option.bind_some, Sum.elim_inr]
     rw [zrf gx.2.1 o3' (by omega)]
     simp only [Option.bind_some]
     rw [z65 (by simp; omega)]
     simp only [Option.bind_some]
     rw [z65 (by simp; omega)]
     simp only [Option.bind_some, hw, prG, List.append_assoc])
    (fun acc => by unfold z9p; rw [if_neg (by simp)]) _ (by rw [List.length_append]; omega)]
   simp only [Option.bind_some, Sum.elim_inr, List.append_assoc]
   rw [← hws]
   unfold endW
   rw [hbad, hdp]
   simp only [Bool.not_true, Bool.false_eq_true, if_false]
   by_cases h2 : 2000 < (sSys (cSys s)).ws.length
   ·rw [if_pos h2, if_pos (by simp; omega)]
   ·rw [if_neg h2, if_neg (by simp; omega)]
end Go.Proofs.YtokjbpmjdcbogaaGreatDoor.Abs.Wri
/- The program finds each system the same as itself. -/
namespace Go.Proofs.YtokjbpmjdcbogaaGreatDoor.Abs.Wri
open Go Go.RowKit
set_option linter.unusedVariables false
set_option linter.unusedSimpArgs false
theorem z07b {β O : Type} {body : Int → Option (Sum Int (Sum O Unit))} {n H : Nat} (l : List β) (r : O) (hlen : l.length ≤ 4611686018427387904)
  (hs : ∀ (i : Nat) (x : β), idx l (i : Int) = some x → x ∈ l → i < l.length → IntKind.i64.wrap ((i : Int) + 1) = ((i + 1 : Nat) : Int) → Sn n H (body (i : Int)) (.inl ((i + 1 : Nat) : Int)))
  (he : body (l.length : Int) = some (.inr (.inr ()))) : Sn n H (iter body 0) (.inr ()) := by
 have h := zmo (n := n) (H := H) l (fun _ => true) r hlen (fun i x h0 h1 h2 h3 h4 => by simpa using hs i x h1 h2 h3 h4) he
 have e : (l.all fun _ => true) = true := by simp
 rw [e] at h
 simpa using h
theorem zj7 {β O : Type} {body : Int → Option (Sum Int (Sum O Unit))} (l : List β) (r : O) (hlen : l.length ≤ 4611686018427387904)
  (hs : ∀ (i : Nat) (x : β), idx l (i : Int) = some x → x ∈ l → i < l.length → IntKind.i64.wrap ((i : Int) + 1) = ((i + 1 : Nat) : Int) → body (i : Int) = some (.inl ((i + 1 : Nat) : Int)))
  (he : body (l.length : Int) = some (.inr (.inr ()))) : iter body 0 = some (.inr ()) := by
 rcases z07b (n := 0) (H := 0) l r hlen (fun i x h1 h2 h3 h4 => .inl (hs i x h1 h2 h3 h4)) he with h | ⟨_, h⟩
 ·exact h
 ·omega
theorem zsg {n : Int} : (n != n) = false := by simp
/-! ### Expressions -/
theorem zoq : ∀ l : List z03, l.length ≤ szEs l
 | [] => by simp
 | e :: r => by have := zoq r; have := z8i e; simp only [szEs, List.length_cons]; omega
theorem zor : ∀ {l : List z03} {x : z03}, x ∈ l → szE x ≤ szEs l
 | y :: r, x, h => by
  rcases List.mem_cons.1 h with rfl | h
  ·simp only [szEs]; omega
  ·have := zor h; simp only [szEs]; omega
/-! ### Statements -/
theorem zze : ∀ l : List z02, l.length ≤ szL l := zr4
theorem zse : ∀ {l : List z02} {x : z02}, x ∈ l → szS x + 1 ≤ szL l
 | y :: r, x, h => by
  have := z4y r
  rcases List.mem_cons.1 h with rfl | h
  ·simp only [szL]; omega
  ·have := zse h; simp only [szL]; omega
theorem zsf : ∀ {l : List z0n} {x : z0n}, x ∈ l → szL x.Body + 3 ≤ szA l
 | .mk t v b :: r, x, h => by
  have := zgx r
  rcases List.mem_cons.1 h with rfl | h
  ·simp only [szA]; show szL b + 3 ≤ _; omega
  ·have := zsf h; simp only [szA]; omega
theorem zos {l : List ByteArray} (h : l.length ≤ 400000000000) : z3n l l = some true := by
 unfold z3n
 rw [zj7 (body := z34 l l) l false (by omega) (fun i x hx hm hlt hw => by
  unfold z34
  rw [if_pos (by simpa using hlt), hx]
  simp [hw]) (by unfold z34; rw [if_neg (by simp)])]
 simp
theorem zun {l : List z35} (h : l.length ≤ 400000000000) : zes l l = some true := by
 unfold zes
 rw [zj7 (body := z9s l l) l false (by omega) (fun i x hx hm hlt hw => by
  unfold z9s
  rw [if_pos (by simpa using hlt), hx]
  simp [hw]) (by unfold z9s; rw [if_neg (by simp)])]
 simp
end Go.Proofs.YtokjbpmjdcbogaaGreatDoor.Abs.Wri
