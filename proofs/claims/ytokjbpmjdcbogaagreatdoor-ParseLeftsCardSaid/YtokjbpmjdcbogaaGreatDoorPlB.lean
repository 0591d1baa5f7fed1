/- What lexing is, over lists of bytes, and small facts on bytes and rounds; no program in sight. -/
import Derived.Test.YtokjbpmjdcbogaaGreatDoorHandA
import Derived.Test.YtokjbpmjdcbogaaGreatDoorAbsU
import Derived.Test.YtokjbpmjdcbogaaGreatDoorGwD
import Derived.Lib.ItoaLen
namespace Go.Proofs.YtokjbpmjdcbogaaGreatDoor.Abs
open Go Go.RowKit
set_option linter.unusedVariables false
set_option linter.unusedSimpArgs false
theorem zdk {X O : Type} {body : X → Option (Sum X O)} {x y : X} (h : body x = some (.inl y)) : iter body x = iter body y := by rw [z9v, h]; rfl
theorem z5v {X O : Type} {body : X → Option (Sum X O)} {x : X} {r : O} (h : body x = some (.inr r)) : iter body x = some r := by rw [z9v, h]; rfl
theorem z63 {α : Type} {B : Nat} {L M : List α} (h : (L.length + M.length) * B ≤ 140737488355328) : app B L M = some (L ++ M) := by unfold app; rw [if_pos h]
theorem zhy {α : Type} {l : List α} {i : Nat} (h : i < l.length) : idx l (i : Int) = some l[i] := by
 unfold idx; rw [if_pos (by omega)]; simp [h]
/-! ### Bytes -/
theorem z4y (s : ByteArray) : s.data.toList.length = s.size := by rw [Array.length_toList]; rfl
theorem zwq (s : ByteArray) (i : Nat) (h : i < s.data.toList.length) : bt s (i : Int) = ((s.data.toList[i]).toNat : Int) := by
 have h' : i < s.size := by rw [← z4y]; exact h
 have := zod s (i : Int) (by simpa using h')
 rw [← this]; simp; rfl
theorem ext_list (s : ByteArray) (a b : Nat) : (s.extract a b).data.toList = (s.data.toList.take b).drop a := by simp [List.drop_take]
theorem zl4 (s : ByteArray) (a : Nat) : (s.extract a s.size).data.toList = s.data.toList.drop a := by
 rw [ext_list, List.take_of_length_le (by rw [z4y]; omega)]
theorem zqs (s t : ByteArray) : (s ++ t).data.toList = s.data.toList ++ t.data.toList := by simp
theorem zre {s t : ByteArray} (h : s.data.toList = t.data.toList) : s = t := ByteArray.ext (Array.toList_inj.mp h)

/-! ### What lexing is -/
abbrev Bs := List UInt8
def isL (b : UInt8) : Bool := decide (97 ≤ b.toNat) && decide (b.toNat ≤ 122)
def isD (b : UInt8) : Bool := decide (48 ≤ b.toNat) && decide (b.toNat ≤ 57)
def isA (b : UInt8) : Bool := isL b || isD b
def isB (b : UInt8) : Bool := b == 32 || b == 10
def runL (l : Bs) : Nat := (l.takeWhile isA).length
def resv : List Bs := [[99, 104, 97, 110], [98, 108, 111, 99, 107], [100, 114, 111, 112], [108, 111, 115, 115, 121], [102, 114, 111, 109], [116, 111], [114, 117, 108, 101], [112, 114, 111, 99], [118, 97, 114], [105, 102], [101, 108, 115, 101], [119, 104, 105, 108, 101], [115, 101, 110, 100], [114, 101, 99, 118], [97, 115, 115, 101, 114, 116], [105, 110, 112, 117, 116]]
def dval (l : Bs) : Nat := l.foldl (fun a b => 10 * a + (b.toNat - 48)) 0
def zjd (t : Bs) : Bool := decide (t.length ≤ 10) && !(decide (1 < t.length) && t.head? == some 48) && t.all isD && decide (dval t ≤ 2147483647)
def ones : Bs := [123, 125, 40, 41, 59, 44, 46, 61, 60, 62, 43, 45, 42, 47, 37]
def twos : Bs := [61, 33, 60, 62]
def zcf (l : Bs) : Nat :=
 if l[1]? = some 61 ∧ l.head? ∈ twos.map some then 2 else if l.head? ∈ ones.map some then 1 else 0
structure W where
 kind : Int
 len : Nat
 num : Nat
/-- The word that a text begins with, or the error. -/
def zaj (l : Bs) : Except Int W :=
 match l with
 | [] => .error 2
 | b :: _ =>
  if isL b then (if 12 < runL l then .error 3 else .ok ⟨if l.take (runL l) ∈ resv then 4 else 1, runL l, 0⟩)
  else if isD b then (if zjd (l.take (runL l)) then .ok ⟨2, runL l, dval (l.take (runL l))⟩ else .error 3)
  else if zcf l = 0 then .error 2 else .ok ⟨3, zcf l, 0⟩
theorem zbh (b : UInt8) (r : Bs) : zaj (b :: r) =
  if isL b then (if 12 < runL (b :: r) then .error 3 else .ok ⟨if (b :: r).take (runL (b :: r)) ∈ resv then 4 else 1, runL (b :: r), 0⟩)
  else if isD b then (if zjd ((b :: r).take (runL (b :: r))) then .ok ⟨2, runL (b :: r), dval ((b :: r).take (runL (b :: r)))⟩ else .error 3)
  else if zcf (b :: r) = 0 then .error 2 else .ok ⟨3, zcf (b :: r), 0⟩ := rfl
structure Tok where
 kind : Int
 text : Bs
 num : Nat
 at_ : Nat
/-- All words from a place on, and the error with its place. -/
def lexS (l : Bs) (p : Nat) : List Tok × Option (Nat × Int) :=
 match l with
 | [] => ([], none)
 | b :: r =>
  if isB b then lexS r (p + 1)
  else match zaj (b :: r) with
   | .error e => ([], some (p, e))
   | .ok w => let z := lexS (r.drop (w.len - 1)) (p + w.len); (⟨w.kind, (b :: r).take w.len, w.num, p⟩ :: z.1, z.2)
termination_by l.length
decreasing_by all_goals (simp; try omega)
/-- What is told. -/
def told (size : Nat) (z : List Tok × Option (Nat × Int)) : List Tok × Int × Int :=
 match z.2 with
 | some (p, e) => ([], (p : Int), e)
 | none => if 2000 < z.1.length then ([], (size : Int), 4) else (z.1, 0, 0)

/-! ### Facts -/
theorem zjq (l : Bs) : runL l ≤ l.length := by
 unfold runL; have := List.takeWhile_prefix (p := isA) (l := l); exact this.length_le
theorem z9n (b : UInt8) (l : Bs) : runL (b :: l) = if isA b then runL l + 1 else 0 := by
 unfold runL; rw [List.takeWhile_cons]; split <;> simp
theorem zgs {b : UInt8} {l : Bs} (h : isA b = true) : 0 < runL (b :: l) := by rw [z9n, if_pos h]; omega
theorem zl5 (l : Bs) : zcf l ≤ l.length := by
 unfold zcf
 split
 ·rename_i h; have := (List.getElem?_eq_some_iff.mp h.1).1; omega
 ·split
  ·rename_i h; cases l with
   | nil => simp at h
   | cons a t => simp
  ·omega
theorem zev {l : Bs} {w : W} (h : zaj l = .ok w) : 0 < w.len ∧ w.len ≤ l.length := by
 cases l with
 | nil => simp [zaj] at h
 | cons b r =>
  simp only [zaj] at h
  split at h
  ·rename_i hb; split at h
   ·cases h
   ·cases h; exact ⟨zgs (by simp [isA, hb]), zjq _⟩
  ·split at h
   ·rename_i hb; split at h
    ·cases h; exact ⟨zgs (by simp [isA, hb]), zjq _⟩
    ·cases h
   ·split at h
    ·cases h
    ·rename_i hz; cases h; exact ⟨by simp; omega, zl5 _⟩
theorem zku (p : Nat) : lexS [] p = ([], none) := by rw [lexS]
theorem zfu {b : UInt8} (r : Bs) (p : Nat) (h : isB b = true) : lexS (b :: r) p = lexS r (p + 1) := by rw [lexS, if_pos h]
theorem zmo {b : UInt8} {r : Bs} {p : Nat} {e : Int} (h : isB b = false) (hw : zaj (b :: r) = .error e) : lexS (b :: r) p = ([], some (p, e)) := by
 rw [lexS, if_neg (by simp [h]), hw]
theorem zop {b : UInt8} {r : Bs} {p : Nat} {w : W} (h : isB b = false) (hw : zaj (b :: r) = .ok w) :
  lexS (b :: r) p = (⟨w.kind, (b :: r).take w.len, w.num, p⟩ :: (lexS ((b :: r).drop w.len) (p + w.len)).1, (lexS ((b :: r).drop w.len) (p + w.len)).2) := by
 rw [lexS, if_neg (by simp [h]), hw]
 have := (zev hw).1
 have e : (b :: r).drop w.len = r.drop (w.len - 1) := by
  obtain ⟨n, hn⟩ : ∃ n, w.len = n + 1 := ⟨w.len - 1, by omega⟩
  rw [hn]; simp
 rw [e]

/-! ### Numbers -/
def zcz (a : Nat) (b : UInt8) : Nat := 10 * a + (b.toNat - 48)
theorem zl6 (l : Bs) : ∀ a, a * 10 ^ l.length ≤ l.foldl zcz a := by
 induction l with
 | nil => intro a; simp
 | cons b r ih =>
  intro a
  have h := ih (zcz a b)
  simp only [List.foldl_cons, List.length_cons]
  refine Nat.le_trans ?_ h
  rw [Nat.pow_succ, Nat.mul_comm (10 ^ r.length) 10, ← Nat.mul_assoc]
  exact Nat.mul_le_mul_right _ (by unfold zcz; omega)
theorem zp9 (l : Bs) : dval l = l.foldl zcz 0 := rfl
theorem zd0 (s : ByteArray) (i : Nat) (h : i < s.data.toList.length) : bidx s (i : Int) = some ((s.data.toList[i]).toNat : Int) := by
 have h' : i < s.size := by rw [← z4y]; exact h
 unfold bidx
 rw [if_pos (by omega), Int.toNat_natCast, getElem?_pos s i h']
 rfl
theorem zpa {s : ByteArray} {a b : Nat} (h1 : a ≤ b) (h2 : b ≤ s.size) : ssub s (a : Int) (b : Int) = some (s.extract a b) := by
 unfold ssub; rw [if_pos ⟨by omega, by omega, by omega⟩]; simp
end Go.Proofs.YtokjbpmjdcbogaaGreatDoor.Abs
/- lex.Lex, as it is printed, comes to what lexing is, of all texts of at most 4,194,304 bytes. -/
namespace Go.Proofs.YtokjbpmjdcbogaaGreatDoor.Abs
open Go Go.RowKit
set_option linter.unusedVariables false
set_option linter.unusedSimpArgs false
theorem zgt (b : UInt8) : z8i (b.toNat : Int) = some (isL b) := by
 unfold z8i isL
 by_cases h : 97 ≤ b.toNat
 ·rw [if_pos (by simp; omega)]; simp only [h, decide_true, Bool.true_and]; exact congrArg some (decide_eq_decide.mpr (by omega))
 ·rw [if_neg (by simp; omega)]; simp only [h, decide_false, Bool.false_and]
theorem zjr (b : UInt8) : z9e (b.toNat : Int) = some (isD b) := by
 unfold z9e isD
 by_cases h : 48 ≤ b.toNat
 ·rw [if_pos (by simp; omega)]; simp only [h, decide_true, Bool.true_and]; exact congrArg some (decide_eq_decide.mpr (by omega))
 ·rw [if_neg (by simp; omega)]; simp only [h, decide_false, Bool.false_and]
theorem zwr (p : ByteArray) (hp : p.size ≤ 4194304) : ∀ (d i : Nat), p.size - i = d → i ≤ p.size →
  iter (z7o p) (i : Int) = some (.inr ((i + runL (p.data.toList.drop i) : Nat) : Int)) := by
 intro d
 induction d with
 | zero =>
  intro i hd hi
  have : i = p.size := by omega
  refine z5v ?_
  unfold z7o
  rw [if_neg (by simp; omega), List.drop_of_length_le (by rw [z4y]; omega)]
  simp [runL]
 | succ d ih =>
  intro i hd hi
  have hl : i < p.data.toList.length := by rw [z4y]; omega
  have e := List.drop_eq_getElem_cons hl
  have hb := zd0 p i hl
  generalize p.data.toList[i] = b at e hb
  have hw : IntKind.i64.wrap ((i : Int) + 1) = ((i + 1 : Nat) : Int) := by rw [w64 (by omega) (by omega)]; omega
  have IH := ih (i + 1) (by omega) (by omega)
  have hs : (decide ((i : Int) < (p.size : Int))) = true := by simp; omega
  rw [e, z9n]
  by_cases hA : isA b = true
  ·rw [if_pos hA]
   rw [zdk (y := ((i + 1 : Nat) : Int)) ?_, IH]
   ·congr 2; omega
   ·unfold z7o
    rw [if_pos hs, hb]
    simp only [Option.bind_eq_bind, Option.bind_some, zgt, zjr, hw]
    unfold isA at hA
    cases hL : isL b
    ·rw [hL] at hA; simp only [Bool.false_or] at hA; simp [hA]
    ·simp
  ·rw [if_neg hA]
   refine z5v ?_
   unfold z7o
   rw [if_pos hs, hb]
   simp only [Option.bind_eq_bind, Option.bind_some, zgt, zjr]
   unfold isA at hA
   simp only [Bool.or_eq_true, not_or, Bool.not_eq_true] at hA
   simp [hA.1, hA.2]
theorem zxq (p : ByteArray) (hp : p.size ≤ 4194304) : zdd p = some ((runL p.data.toList : Nat) : Int) := by
 have := zwr p hp p.size 0 (by omega) (by omega)
 unfold zdd
 rw [show ((0 : Int)) = ((0 : Nat) : Int) from rfl, this]
 simp
theorem zmp (s : ByteArray) : z7v s = some (decide (s.data.toList ∈ resv)) := by
 unfold z7v
 simp only [Go.ByteArray.toList_eq]
 generalize s.data.toList = l
 by_cases hm : l ∈ resv
 ·have hm2 := hm
  unfold resv at hm2
  simp only [List.mem_cons, List.not_mem_nil, or_false] at hm2
  rcases hm2 with rfl | rfl | rfl | rfl | rfl | rfl | rfl | rfl | rfl | rfl | rfl | rfl | rfl | rfl | rfl | rfl
  all_goals rfl
 ·have hm2 := hm
  unfold resv at hm2
  simp only [List.mem_cons, List.not_mem_nil, or_false, not_or] at hm2
  obtain ⟨h0, h1, h2, h3, h4, h5, h6, h7, h8, h9, h10, h11, h12, h13, h14, h15⟩ := hm2
  simp only [hm, decide_false, beq_iff_eq, h0, h1, h2, h3, h4, h5, h6, h7, h8, h9, h10, h11, h12, h13, h14, h15, if_false]
theorem zuq (s : ByteArray) (hp : s.size ≤ 12) : z9f s = some (⟨if s.data.toList ∈ resv then 4 else 1, s, 0, 0⟩, 0) := by
 unfold z9f
 rw [if_neg (by simp; omega), zmp]
 by_cases hm : s.data.toList ∈ resv <;> simp [hm]
theorem zws (l : Bs) (c : UInt8) : (0 ≤ Lib.indexByte l c) ↔ c ∈ l := by
 induction l with
 | nil => simp [Lib.indexByte]
 | cons b r ih =>
  simp only [Lib.indexByte]
  have hge := Lib.indexByte_ge r c
  by_cases hb : (b == c) = true
  ·simp [(beq_iff_eq.mp hb).symm]
  ·have hb' : ¬ b = c := by simpa using hb
   simp only [hb, Bool.false_eq_true, if_false]
   by_cases hr : (Lib.indexByte r c == -1) = true
   ·simp only [hr, if_true]
    have : ¬ (0 ≤ Lib.indexByte r c) := by have := beq_iff_eq.mp hr; omega
    have : ¬ c ∈ r := fun h => this (ih.mpr h)
    simp [this, Ne.symm hb']
   ·simp only [hr, Bool.false_eq_true, if_false]
    have : ¬ Lib.indexByte r c = -1 := by simpa using hr
    have h2 : c ∈ r := ih.mp (by omega)
    simp [h2]; omega
theorem zxr (b : UInt8) : ((b.toNat : Int)).toNat.toUInt8 = b := by simp

theorem zpb (l : Bs) (c : UInt8) : ∃ z, zj0 ⟨l.toArray⟩ (c.toNat : Int) = some z ∧ (decide (z ≥ 0) = decide (c ∈ l)) := by
 refine ⟨_, rfl, ?_⟩
 rw [zxr]
 exact decide_eq_decide.mpr (zws l c)
theorem zwt (p : ByteArray) (h0 : 0 < p.size) : zcp p = some ((zcf p.data.toList : Nat) : Int) := by
 have hl0 : 0 < p.data.toList.length := by rw [z4y]; omega
 have hb0 := zd0 p 0 hl0
 have e0 : p.data.toList.head? = some (p.data.toList[0]) := by rw [List.head?_eq_getElem?]; exact List.getElem?_eq_getElem hl0
 generalize p.data.toList[0] = a at e0 hb0
 obtain ⟨z1, hz1, hd1⟩ := zpb ones a
 obtain ⟨z2, hz2, hd2⟩ := zpb twos a
 have ho : (p.data.toList.head? ∈ ones.map some) ↔ a ∈ ones := by rw [e0]; simp
 have ht : (p.data.toList.head? ∈ twos.map some) ↔ a ∈ twos := by rw [e0]; simp
 have hS : zcf p.data.toList = if (p.data.toList[1]? = some 61 ∧ a ∈ twos) then 2 else if a ∈ ones then 1 else 0 := by
  unfold zcf; simp only [ht, ho]
 rw [hS]
 unfold zcp
 have hz1 : zj0 (ByteArray.mk #[123, 125, 40, 41, 59, 44, 46, 61, 60, 62, 43, 45, 42, 47, 37]) (a.toNat : Int) = some z1 := hz1
 have hz2 : zj0 (ByteArray.mk #[61, 33, 60, 62]) (a.toNat : Int) = some z2 := hz2
 have hb0 : bidx p 0 = some (a.toNat : Int) := hb0
 simp only [hb0, Option.bind_eq_bind, Option.bind_some, hz1, hz2, hd1, hd2]
 by_cases h1 : 1 < p.size
 ·have hl1 : 1 < p.data.toList.length := by rw [z4y]; omega
  have hb1 := zd0 p 1 hl1
  have e1 : p.data.toList[1]? = some (p.data.toList[1]) := List.getElem?_eq_getElem hl1
  generalize p.data.toList[1] = c at e1 hb1
  have hb1 : bidx p 1 = some (c.toNat : Int) := hb1
  have hc61 : ((c.toNat : Int) == 61) = decide (c = 61) := by
   by_cases hc : c = 61
   ·subst hc; rfl
   ·have : ¬ ((c.toNat : Int) = 61) := by intro h; apply hc; apply UInt8.toNat_inj.mp; have : (61 : UInt8).toNat = 61 := rfl; omega
    simp [hc, this]
  have hgt : (decide ((p.size : Int) > 1)) = true := by simp; omega
  rw [e1]
  simp only [hgt, if_true, hb1, Option.bind_some, hc61]
  by_cases hc : c = 61 <;> by_cases hm : a ∈ twos <;> by_cases hn : a ∈ ones <;> simp [hc, hm, hn]
 ·have e1 : p.data.toList[1]? = none := List.getElem?_eq_none (by rw [z4y]; omega)
  have hgt : (decide ((p.size : Int) > 1)) = false := by simp; omega
  rw [e1]
  simp only [hgt]
  by_cases hn : a ∈ ones <;> simp [hn]
/-! ### lex.number -/
theorem zrf (b : UInt8) : digs.contains b = isD b := by
 rw [Bool.eq_iff_iff]
 constructor
 ·intro h
  have h : b ∈ digs := by simpa using h
  unfold digs at h
  simp only [List.mem_cons, List.not_mem_nil, or_false] at h
  rcases h with rfl | rfl | rfl | rfl | rfl | rfl | rfl | rfl | rfl | rfl <;> rfl
 ·intro h
  simp only [isD, Bool.and_eq_true, decide_eq_true_eq] at h
  have h2 : b.toNat = 48 ∨ b.toNat = 49 ∨ b.toNat = 50 ∨ b.toNat = 51 ∨ b.toNat = 52 ∨ b.toNat = 53 ∨ b.toNat = 54 ∨ b.toNat = 55 ∨ b.toNat = 56 ∨ b.toNat = 57 := by omega
  have e : ∀ n, b.toNat = n → b = UInt8.ofNat n := fun n h => by rw [← h]; simp
  rcases h2 with h | h | h | h | h | h | h | h | h | h <;> (rw [e _ h]; rfl)
theorem zpc {p : UInt8 → Bool} {l : Bs} : l.dropWhile p = [] ↔ ∀ x ∈ l, p x = true := by
 induction l with
 | nil => simp
 | cons b r ih =>
  rw [List.dropWhile_cons]
  by_cases h : p b = true
  ·rw [if_pos h, ih]; simp [h]
  ·rw [if_neg h]; simp [h]
theorem zl7 (l : Bs) : (Lib.trimS l digs = []) ↔ (l.all isD = true) := by
 have hp : (fun b => digs.contains b) = isD := funext zrf
 unfold Lib.trimS Lib.trimLeftS Lib.trimRightS
 rw [show (digs.contains ·) = isD from hp]
 constructor
 ·intro h
  rw [zpc] at h
  have h2 : List.dropWhile isD l.reverse = [] := by
   cases hm : List.dropWhile isD l.reverse with
   | nil => rfl
   | cons x m =>
    have h3 := List.head_dropWhile_not isD (l := l.reverse) (by rw [hm]; simp)
    have h4 := h x (by rw [List.mem_reverse, hm]; simp)
    simp only [hm, List.head_cons] at h3
    rw [h4] at h3; cases h3
  rw [zpc] at h2
  exact List.all_eq_true.mpr fun x hx => h2 x (by simpa using hx)
 ·intro h
  have h1 : List.dropWhile isD l.reverse = [] := zpc.mpr fun x hx => List.all_eq_true.mp h x (by simpa using hx)
  rw [h1]; rfl
theorem zwu (l : Bs) (h : ∀ b ∈ l, isD b = true) : ∀ acc, acc ≤ 4294967295 →
  Lib.parseUintM 4294967295 acc l = if l.foldl zcz acc ≤ 4294967295 then .ok (l.foldl zcz acc) else .range := by
 induction l with
 | nil => intro acc ha; simp [Lib.parseUintM, ha]
 | cons c r ih =>
  intro acc ha
  have hc := h c List.mem_cons_self
  simp only [isD, Bool.and_eq_true, decide_eq_true_eq] at hc
  have hr := ih (fun x hx => h x (List.mem_cons_of_mem _ hx))
  rw [List.foldl_cons]
  simp only [Lib.parseUintM]
  rw [if_pos hc, if_neg (by omega)]
  have es : acc * 10 + (c.toNat - 48) = zcz acc c := by unfold zcz; omega
  rw [es]
  by_cases hM : 4294967295 < zcz acc c
  ·rw [if_pos hM, if_neg]
   have := zl6 r (zcz acc c)
   have hp : 1 ≤ 10 ^ r.length := Nat.one_le_pow _ _ (by omega)
   have := Nat.mul_le_mul_left (zcz acc c) hp
   omega
  ·rw [if_neg hM, hr _ (by omega)]
theorem zpd (c : UInt8) (r : Bs) (h : ∀ b ∈ c :: r, isD b = true) :
  Lib.parseIntB 32 (c :: r) = if dval (c :: r) ≤ 2147483647 then .ok ((dval (c :: r) : Nat) : Int) else .range := by
 have hc := h c List.mem_cons_self
 simp only [isD, Bool.and_eq_true, decide_eq_true_eq] at hc
 have hp := zwu (c :: r) h 0 (by omega)
 simp only [Lib.parseIntB]
 rw [if_neg (by omega)]
 unfold Lib.parseUintB
 rw [if_neg (by simp)]
 rw [show (2 ^ 32 - 1 : Nat) = 4294967295 from rfl, hp, ← zp9]
 generalize dval (c :: r) = v
 have h45 : ¬ (c.toNat = 45) := by omega
 by_cases h1 : v ≤ 4294967295
 ·rw [if_pos h1]
  by_cases h2 : v ≤ 2147483647
  ·rw [if_pos h2]; dsimp only; rw [if_neg (by rintro ⟨_, h⟩; omega), if_neg (by rintro ⟨h, _⟩; exact h45 h), if_neg h45]
  ·rw [if_neg h2]; dsimp only; rw [if_pos ⟨h45, by omega⟩]
 ·rw [if_neg h1, if_neg (by omega)]
theorem zkt (c : UInt8) (r : Bs) (hc : isD c = true) (h48 : c ≠ 48) (hv : dval (c :: r) ≤ 2147483647) : (c :: r).length ≤ 10 := by
 simp only [isD, Bool.and_eq_true, decide_eq_true_eq] at hc
 have h1 : c.toNat ≠ 48 := fun h => h48 (UInt8.toNat_inj.mp (by rw [h]; rfl))
 rw [zp9, List.foldl_cons] at hv
 have hg := zl6 r (zcz 0 c)
 have hs : 1 ≤ zcz 0 c := by unfold zcz; omega
 have h2 : 10 ^ r.length ≤ 2147483647 := by
  have := Nat.mul_le_mul_right (10 ^ r.length) hs
  omega
 have h3 : r.length < 10 := by
  refine Decidable.byContradiction fun hn => ?_
  have : 10 ^ 10 ≤ 10 ^ r.length := Nat.pow_le_pow_right (by omega) (by omega)
  have : (10 : Nat) ^ 10 = 10000000000 := by decide
  omega
 simp; omega
theorem zrg (s : ByteArray) (c : UInt8) (r : Bs) (e : s.data.toList = c :: r) (hc : isD c = true) (hs : s.size ≤ 4194304) :
  zep s = if zjd (c :: r) then some (((dval (c :: r) : Nat) : Int), 0) else some (0, 3) := by
 have hsz : s.size = (c :: r).length := by rw [← e, z4y]
 have hb := zwq s 0 (by rw [e]; simp)
 have hb : bt s 0 = (c.toNat : Int) := by simpa [e] using hb
 have h48 : (bt s 0 = 48) ↔ c = 48 := by
  rw [hb]; constructor
  ·intro h; exact UInt8.toNat_inj.mp (by have : (48 : UInt8).toNat = 48 := rfl; omega)
  ·rintro rfl; rfl
 unfold zep zjd
 rw [if_pos (by omega), e, hsz]
 have hh : ((c :: r).head? == some 48) = decide (c = 48) := by
  by_cases h : c = 48
  ·subst h; rfl
  ·simp [h]
 rw [hh]
 by_cases hall : (c :: r).all isD = true
 ·have ht := (zl7 (c :: r)).mpr hall
  by_cases h1 : 1 < (c :: r).length ∧ c = 48
  ·rw [if_pos (.inr ⟨h1.1, h48.mpr h1.2⟩)]
   rw [if_neg]
   simp only [Bool.and_eq_true, decide_eq_true_eq, Bool.not_eq_true', Bool.and_eq_false_iff, decide_eq_false_iff_not]
   rintro ⟨⟨⟨_, h | h⟩, _⟩, _⟩
   ·exact h h1.1
   ·exact h h1.2
  ·rw [if_neg (by rintro (h | ⟨h, h'⟩); exact h ht; exact h1 ⟨h, h48.mp h'⟩), zpd c r (fun b hb => List.all_eq_true.mp hall b hb)]
   by_cases hv : dval (c :: r) ≤ 2147483647
   ·have hl : (c :: r).length ≤ 10 := by
     by_cases hz : c = 48
     ·have : ¬ 1 < (c :: r).length := fun h => h1 ⟨h, hz⟩
      omega
     ·exact zkt c r hc hz hv
    rw [if_pos hv, if_pos]
    simp only [Bool.and_eq_true, hall, decide_eq_true_eq, hv, hl, and_true, true_and, Bool.not_eq_true', Bool.and_eq_false_iff, decide_eq_false_iff_not]
    by_cases hz : c = 48
    ·left; exact fun h => h1 ⟨h, hz⟩
    ·right; exact hz
   ·rw [if_neg hv, if_neg]
    simp only [Bool.and_eq_true, decide_eq_true_eq, hv, and_false, not_false_eq_true]
 ·rw [if_pos (.inl fun h => hall ((zl7 _).mp h)), if_neg]
  intro h
  simp only [Bool.and_eq_true] at h
  exact hall h.1.2

/-! ### lex.word, lex.Lex -/
theorem zwv (p : ByteArray) (b : UInt8) (r : Bs) (e : p.data.toList = b :: r) (hp : p.size ≤ 4194304) :
  match zaj (b :: r) with
  | .ok w => za0 p = some (⟨w.kind, p.extract 0 w.len, (w.num : Int), 0⟩, 0)
  | .error c => ∃ x, c ≠ 0 ∧ za0 p = some (x, c) := by
 have hsz : p.size = (b :: r).length := by rw [← e, z4y]
 have h0 : 0 < p.size := by rw [hsz]; simp
 have hb : bidx p 0 = some (b.toNat : Int) := by
  have := zd0 p 0 (by rw [e]; simp)
  simpa [e] using this
 have hrun := zxq p hp
 rw [e] at hrun
 have hrl := zjq (b :: r)
 have hxl : (p.extract 0 (runL (b :: r))).data.toList = (b :: r).take (runL (b :: r)) := by rw [ext_list, e]; simp
 have hxs : (p.extract 0 (runL (b :: r))).size = runL (b :: r) := by rw [← z4y, hxl, List.length_take]; omega
 have hcut : ∀ n : Nat, n ≤ p.size → ssub p 0 (n : Int) = some (p.extract 0 n) := fun n hn => zpa (Nat.zero_le _) hn
 unfold za0
 simp only [hb, Option.bind_eq_bind, Option.bind_some, zgt, zjr]
 rw [zbh]
 by_cases hL : isL b = true
 ·rw [if_pos hL, if_pos hL, hrun]
  simp only [Option.bind_some, hcut _ (by omega : runL (b :: r) ≤ p.size)]
  by_cases h12 : 12 < runL (b :: r)
  ·rw [if_pos h12]
   refine ⟨⟨0, ByteArray.mk #[], 0, 0⟩, by decide, ?_⟩
   unfold z9f
   rw [if_pos (by simp [hxs]; omega)]; rfl
  ·rw [if_neg h12, zuq _ (by omega), hxl]; rfl
 ·rw [if_neg hL, if_neg hL]
  by_cases hD : isD b = true
  ·have hxe : (p.extract 0 (runL (b :: r))).data.toList = b :: r.take (runL (b :: r) - 1) := by
    rw [hxl]
    have := zgs (b := b) (l := r) (by simp [isA, hD])
    obtain ⟨n, hn⟩ : ∃ n, runL (b :: r) = n + 1 := ⟨runL (b :: r) - 1, by omega⟩
    rw [hn]; simp
   have hnum := zrg (p.extract 0 (runL (b :: r))) b _ hxe hD (by omega)
   rw [← hxe, hxl] at hnum
   rw [if_pos hD, if_pos hD, hrun]
   simp only [Option.bind_some, hcut _ (by omega : runL (b :: r) ≤ p.size), hnum]
   by_cases ho : zjd ((b :: r).take (runL (b :: r))) = true
   ·rw [if_pos ho, if_pos ho]; rfl
   ·rw [if_neg ho, if_neg ho]; exact ⟨_, by decide, rfl⟩
  ·rw [if_neg hD, if_neg hD, zwt p h0, e]
   have hsl := zl5 (b :: r)
   simp only [Option.bind_some]
   by_cases hz : zcf (b :: r) = 0
   ·rw [if_pos hz, if_pos (by simp [hz])]
    exact ⟨_, by decide, rfl⟩
   ·rw [if_neg hz, if_neg (by simpa using hz), hcut _ (by omega)]; rfl
def tokT (t : Tok) : z08 := ⟨t.kind, ⟨t.text.toArray⟩, (t.num : Int), (t.at_ : Int)⟩
def finT (size : Nat) (z : List Tok × Option (Nat × Int)) : List z08 × Int × Int :=
 ((told size z).1.map tokT, (told size z).2.1, (told size z).2.2)
theorem zrh (size : Nat) (acc : List Tok) (p : Nat) (e : Int) : finT size (acc, some (p, e)) = ([], (p : Int), e) := rfl
theorem zww (s : ByteArray) (hs : s.size ≤ 4194304) : ∀ (d i : Nat) (acc : List Tok), s.size - i = d → i ≤ s.size → acc.length ≤ i →
  (iter (z7p s) ((i : Int), acc.map tokT) >>= Sum.elim (fun r => some r) (fun j1 => if (decide ((j1.length : Int) > 2000)) then (some ([], (s.size : Int), 4)) else (some (j1, 0, 0)))) = some (finT s.size (acc ++ (lexS (s.data.toList.drop i) i).1, (lexS (s.data.toList.drop i) i).2)) := by
 intro d
 induction d using Nat.strongRecOn with
 | _ d ih =>
 intro i acc hd hi ha
 by_cases hlt : i < s.size
 ·have hl : i < s.data.toList.length := by rw [z4y]; omega
  have e := List.drop_eq_getElem_cons hl
  have hb := zd0 s i hl
  generalize s.data.toList[i] = b at e hb
  have hw : IntKind.i64.wrap ((i : Int) + 1) = ((i + 1 : Nat) : Int) := by rw [w64 (by omega) (by omega)]; omega
  have hs1 : (decide ((i : Int) < (s.size : Int))) = true := by simp; omega
  have h32 : ((b.toNat : Int) == 32) = (b == 32) := by
   rw [Bool.eq_iff_iff, beq_iff_eq, beq_iff_eq]
   constructor
   ·intro h; exact UInt8.toNat_inj.mp (by have : (32 : UInt8).toNat = 32 := rfl; omega)
   ·rintro rfl; rfl
  have h10 : ((b.toNat : Int) == 10) = (b == 10) := by
   rw [Bool.eq_iff_iff, beq_iff_eq, beq_iff_eq]
   constructor
   ·intro h; exact UInt8.toNat_inj.mp (by have : (10 : UInt8).toNat = 10 := rfl; omega)
   ·rintro rfl; rfl
  have hJ : (if (b == 32) = true then some true else some (b == 10)) = some (isB b) := by
   unfold isB; cases (b == 32) <;> simp
  have hbody : z7p s ((i : Int), acc.map tokT) = (if isB b then some (.inl (((i + 1 : Nat) : Int), acc.map tokT)) else
    (ssub s (i : Int) (s.size : Int) >>= fun v3 => za0 v3 >>= fun v4 => if (v4.2 != 0) then (some (.inr (.inl ([], (i : Int), v4.2))))
     else (app 40 (acc.map tokT) [(z08.mk v4.1.Kind v4.1.Text v4.1.Num (i : Int))] >>= fun v5 => some (.inl ((IntKind.i64.wrap ((i : Int) + (v4.1.Text.size : Int))), v5))))) := by
   unfold z7p
   rw [if_pos hs1]
   simp only [hb, Option.bind_eq_bind, Option.bind_some, h32, h10, hw, hJ]
  rw [e]
  by_cases hB : isB b = true
  ·rw [zfu _ _ hB, zdk (y := (((i + 1 : Nat) : Int), acc.map tokT)) (by rw [hbody, if_pos hB])]
   exact ih (s.size - (i + 1)) (by omega) (i + 1) acc rfl (by omega) (by omega)
  ·have hB' : isB b = false := by simpa using hB
   rw [if_neg hB, zpa (by omega) (Nat.le_refl _)] at hbody
   simp only [Option.bind_eq_bind, Option.bind_some] at hbody
   have hpl : (s.extract i s.size).data.toList = b :: s.data.toList.drop (i + 1) := by rw [zl4, e]
   have hps : (s.extract i s.size).size ≤ 4194304 := by rw [ByteArray.size_extract]; omega
   have hwd := zwv (s.extract i s.size) b _ hpl hps
   cases hw1 : zaj (b :: s.data.toList.drop (i + 1)) with
   | error c =>
    rw [hw1] at hwd
    obtain ⟨x, hc, hE⟩ := hwd
    rw [hE] at hbody
    simp only [Option.bind_some] at hbody
    rw [if_pos (by simpa using hc)] at hbody
    rw [z5v hbody, zmo hB' hw1, zrh]
    rfl
   | ok w =>
    rw [hw1] at hwd
    have hlen := zev hw1
    have hlen2 : w.len ≤ s.size - i := by
     have := hlen.2
     rw [← hpl, zl4, List.length_drop, z4y] at this
     exact this
    have hx : (s.extract i s.size).extract 0 w.len = (⟨((b :: s.data.toList.drop (i + 1)).take w.len).toArray⟩ : ByteArray) := by
     refine zre ?_
     rw [ext_list, hpl]; simp
    have hxs : ((⟨((b :: s.data.toList.drop (i + 1)).take w.len).toArray⟩ : ByteArray)).size = w.len := by
     rw [← z4y]; simp only [List.length_take]
     omega
    have hd2 : (b :: s.data.toList.drop (i + 1)).drop w.len = s.data.toList.drop (i + w.len) := by
     rw [← e, List.drop_drop]
    rw [hwd] at hbody
    simp only [Option.bind_some] at hbody
    rw [if_neg (by simp), z63 (by simp; omega)] at hbody
    simp only [Option.bind_some] at hbody
    rw [hx, hxs, w64 (by omega) (by omega)] at hbody
    have IH := ih (s.size - (i + w.len)) (by omega) (i + w.len) (acc ++ [(⟨w.kind, (b :: s.data.toList.drop (i + 1)).take w.len, w.num, i⟩ : Tok)]) rfl (by omega) (by simp; omega)
    rw [zdk hbody, zop hB' hw1, hd2]
    simp only [List.map_append, List.map_cons, List.map_nil, List.append_assoc, List.cons_append, List.nil_append] at IH
    rw [← show (((i + w.len : Nat) : Int)) = (i : Int) + (w.len : Int) by push_cast; rfl]
    exact IH
 ·have hie : i = s.size := by omega
  have hnil : s.data.toList.drop i = [] := List.drop_of_length_le (by rw [z4y]; omega)
  rw [hnil, zku]
  rw [z5v (r := .inr (acc.map tokT)) (by unfold z7p; rw [if_neg (by simp; omega)])]
  simp only [List.append_nil, finT, told, List.length_map, Option.bind_eq_bind, Option.bind_some, Sum.elim_inr]
  by_cases h2 : 2000 < acc.length
  ·rw [if_pos (by simp; omega), if_pos h2]; rfl
  ·rw [if_neg (by simp; omega), if_neg h2]
theorem zxp (s : ByteArray) (hs : s.size ≤ 4194304) : zc3 s = some (finT s.size (lexS s.data.toList 0)) := by
 have := zww s hs s.size 0 [] (by omega) (by omega) (by simp)
 unfold zc3
 simpa using this
end Go.Proofs.YtokjbpmjdcbogaaGreatDoor.Abs
/- What the writer puts, in plain words: words, whether something can't be, whether it is too deep. -/
namespace Go.Proofs.YtokjbpmjdcbogaaGreatDoor.Abs.Wri
open Go Go.RowKit
set_option linter.unusedVariables false
set_option linter.unusedSimpArgs false
/-! ### With as much fuel as is enough -/
def Sn {α : Type} (n h : Nat) (x : Option α) (r : α) : Prop := x = some r ∨ (x = none ∧ n < h)
theorem Sn.pure {α : Type} {n h : Nat} {x : Option α} {r : α} (e : x = some r) : Sn n h x r := .inl e
theorem Sn.mono {α : Type} {n h h' : Nat} {x : Option α} {r : α} (s : Sn n h x r) (hh : h ≤ h') : Sn n h' x r := s.imp id fun ⟨a, b⟩ => ⟨a, by omega⟩
theorem Sn.bind {α β : Type} {n h : Nat} {x : Option α} {f : α → Option β} {r : α} {t : β} (s : Sn n h x r) (k : Sn n h (f r) t) : Sn n h (x >>= f) t := by
 rcases s with rfl | ⟨rfl, hn⟩
 ·exact k
 ·exact .inr ⟨rfl, hn⟩
theorem Sn.up {α : Type} {n h : Nat} {x : Option α} {r : α} (s : Sn n h x r) : Sn (n + 1) (h + 1) x r := s.imp id fun ⟨a, b⟩ => ⟨a, by omega⟩
theorem Sn.unf {α : Type} {f : Nat → Option α} {r : α} {h : Nat} (s : ∀ n, Sn n h (f n) r) : unf f = some r := by
 refine zrq h ?_ fun m t hm => ?_
 ·rcases s h with e | ⟨_, e⟩
  ·exact e
  ·omega
 ·rcases s m with e | ⟨e, _⟩
  ·rw [hm] at e; exact Option.some.inj e
  ·rw [hm] at e; cases e
/-! ### What is put -/
structure Wr where
 ws : List ByteArray
 bad : Bool
 dp : Bool
def Wr.app (x y : Wr) : Wr := ⟨x.ws ++ y.ws, x.bad || y.bad, x.dp || y.dp⟩
instance : Append Wr := ⟨Wr.app⟩
theorem Wr.app_def (x y : Wr) : x ++ y = ⟨x.ws ++ y.ws, x.bad || y.bad, x.dp || y.dp⟩ := rfl
@[simp] theorem Wr.ws_app (x y : Wr) : (x ++ y).ws = x.ws ++ y.ws := rfl
@[simp] theorem Wr.bad_app (x y : Wr) : (x ++ y).bad = (x.bad || y.bad) := rfl
@[simp] theorem Wr.dp_app (x y : Wr) : (x ++ y).dp = (x.dp || y.dp) := rfl
def Wr.nil : Wr := ⟨[], false, false⟩
/-- Words. -/
def wW (l : List ByteArray) : Wr := ⟨l, false, false⟩
/-- What must be. -/
def wM (ok : Bool) : Wr := ⟨[], !ok, false⟩
/-- A depth. -/
def wD (q : Int) : Wr := ⟨[], false, decide (q > 24)⟩
/-- Is it one name? -/
def zoe (s : ByteArray) : Bool :=
 let v := finT s.size (lexS s.data.toList 0)
 v.2.2 == 0 && (v.1.length : Int) == 1 && (match v.1 with | t :: _ => t.Kind == 1 && t.Text.toList == s.toList | [] => false)
def zqk (n : Int) : Bool := decide (n ≥ 0) && decide (n ≤ 2147483647)
def wN (s : ByteArray) : Wr := ⟨[s], !zoe s, false⟩
def wI (n : Int) : Wr := ⟨[zj7 n], !zqk n, false⟩
/-! ### Expressions -/
mutual
def szE : z03 → Nat
 | ⟨_, _, _, l⟩ => 1 + szEs l
def szEs : List z03 → Nat
 | [] => 0
 | e :: r => szE e + szEs r
end
def sumK (k : Int) : Bool := k == 4 || k == 5
def zhx (k : Int) : Bool := decide (k ≥ 4) && decide (k ≤ 8)
def zxs (k : Int) : ByteArray := match k with
 | 4 => ByteArray.mk #[43] | 5 => ByteArray.mk #[45] | 6 => ByteArray.mk #[42] | 7 => ByteArray.mk #[47] | _ => ByteArray.mk #[37]
def zpe (e : z03) : Wr := wM ((e.Kids.length : Int) == 0) ++ (if e.Kind == 1 then wI e.Num else wM (e.Kind == 2) ++ wN e.Name)
/-- A kid, in ( and ), if it must. -/
def inP (must : Bool) (f : Int → Wr) (p : Int) : Wr := if must then wW [(ByteArray.mk #[40])] ++ (wD (p + 1) ++ (f (p + 1) ++ wW [(ByteArray.mk #[41])])) else f p
def sE (e : z03) (p : Int) : Wr :=
 match e with
 | ⟨k, n, s, [x]⟩ => if k == 3 then wW [(ByteArray.mk #[45])] ++ (wD (p + 1) ++ inP (zhx x.Kind) (sE x) (p + 1)) else zpe ⟨k, n, s, [x]⟩
 | ⟨k, n, s, [l, r]⟩ => if zhx k then inP (!sumK k && sumK l.Kind) (sE l) p ++ (wW [zxs k] ++ inP (sumK r.Kind || (!sumK k && zhx r.Kind)) (sE r) p) else zpe ⟨k, n, s, [l, r]⟩
 | ⟨k, n, s, l⟩ => zpe ⟨k, n, s, l⟩
theorem zjs (m : Bool) (f : Int → Wr) (p : Int) (c : Nat) (h : ∀ q, (f q).ws.length ≤ c) : (inP m f p).ws.length ≤ c + 2 := by
 unfold inP
 split
 ·have := h (p + 1); simp [wW, wD]; omega
 ·have := h p; omega
theorem zd1 (e : z03) : (zpe e).ws.length ≤ 1 := by
 unfold zpe
 split <;> simp [wM, wI, wN]
theorem zg0 : ∀ (e : z03) (p : Int), (sE e p).ws.length ≤ 5 * szE e
 | ⟨k, n, s, []⟩, p => by
  have := zd1 ⟨k, n, s, []⟩
  simp only [sE, szE, szEs]; omega
 | ⟨k, n, s, [x]⟩, p => by
  have := zd1 ⟨k, n, s, [x]⟩
  simp only [sE, szE, szEs]
  split
  ·have := zjs (zhx x.Kind) (sE x) (p + 1) (5 * szE x) (zg0 x)
   simp [wW, wD]; omega
  ·omega
 | ⟨k, n, s, [l, r]⟩, p => by
  have := zd1 ⟨k, n, s, [l, r]⟩
  simp only [sE, szE, szEs]
  split
  ·have := zjs (!sumK k && sumK l.Kind) (sE l) p (5 * szE l) (zg0 l)
   have := zjs (sumK r.Kind || (!sumK k && zhx r.Kind)) (sE r) p (5 * szE r) (zg0 r)
   simp [wW]; omega
  ·omega
 | ⟨k, n, s, a :: b :: c :: l⟩, p => by
  have := zd1 ⟨k, n, s, a :: b :: c :: l⟩
  simp only [sE, szE, szEs]; omega
end Go.Proofs.YtokjbpmjdcbogaaGreatDoor.Abs.Wri
/- The writer's expressions and comparisons are what WrA says. -/
namespace Go.Proofs.YtokjbpmjdcbogaaGreatDoor.Abs.Wri
open Go Go.RowKit
set_option linter.unusedVariables false
set_option linter.unusedSimpArgs false
end Go.Proofs.YtokjbpmjdcbogaaGreatDoor.Abs.Wri
/- The writer's comparisons, blocks and statements are what WrA says. -/
namespace Go.Proofs.YtokjbpmjdcbogaaGreatDoor.Abs.Wri
open Go Go.RowKit
set_option linter.unusedVariables false
set_option linter.unusedSimpArgs false
def szC (c : z33) : Nat := 1 + szE c.L + szE c.R
def opOk (k : Int) : Bool := decide (k ≥ 1) && decide (k ≤ 6)
def opW (k : Int) : ByteArray := match k with
 | 1 => ByteArray.mk #[61, 61] | 2 => ByteArray.mk #[33, 61] | 3 => ByteArray.mk #[60] | 4 => ByteArray.mk #[60, 61] | 5 => ByteArray.mk #[62] | _ => ByteArray.mk #[62, 61]
def sC (c : z33) (p : Int) : Wr := wW [(ByteArray.mk #[40])] ++ (sE c.L p ++ ((if opOk c.Op then wW [opW c.Op] else wM false) ++ (sE c.R p ++ wW [(ByteArray.mk #[41])])))
theorem zwx (c : z33) (p : Int) : (sC c p).ws.length ≤ 5 * szC c := by
 have h1 := zg0 c.L p
 have h2 := zg0 c.R p
 unfold sC szC
 split <;> simp [wW, wM] <;> omega
/-! ### Statements -/
mutual
def szS : z02 → Nat
 | .mk _ _ _ e c b l a => 4 + szE e + szC c + szL b + szL l + szA a
def szL : List z02 → Nat
 | [] => 1
 | s :: r => szS s + szL r
def szA : List z0r → Nat
 | [] => 1
 | .mk _ _ b :: r => 2 + szL b + szA r
end
/-- A block's words, of its statements'. -/
def inB (f : Int → Wr) (b : Int) : Wr := wW [(ByteArray.mk #[123])] ++ (wD (b + 1) ++ (f (b + 1) ++ wW [(ByteArray.mk #[125])]))
mutual
def sS : z02 → Int → Int → Wr
 | .mk k n t e c bo el ar, b, p =>
  if k == 1 then wN n ++ (wW [(ByteArray.mk #[61])] ++ (sE e p ++ wW [(ByteArray.mk #[59])]))
  else if k == 2 then wW [(ByteArray.mk #[105, 102])] ++ (sC c p ++ (inB (fun q => sL bo q p) b ++ (if el.isEmpty then Wr.nil else wW [(ByteArray.mk #[101, 108, 115, 101])] ++ inB (fun q => sL el q p) b)))
  else if k == 3 then wW [(ByteArray.mk #[119, 104, 105, 108, 101])] ++ (sC c p ++ inB (fun q => sL bo q p) b)
  else if k == 4 then wW [(ByteArray.mk #[115, 101, 110, 100])] ++ (wN n ++ (wW [(ByteArray.mk #[46])] ++ (wN t ++ (wW [(ByteArray.mk #[40])] ++ (sE e p ++ wW [(ByteArray.mk #[41]), (ByteArray.mk #[59])])))))
  else if k == 5 then wW [(ByteArray.mk #[114, 101, 99, 118])] ++ (wN n ++ (wM (!ar.isEmpty) ++ (wW [(ByteArray.mk #[123])] ++ (sA ar b p ++ wW [(ByteArray.mk #[125])]))))
  else if k == 6 then wW [(ByteArray.mk #[97, 115, 115, 101, 114, 116])] ++ (sC c p ++ wW [(ByteArray.mk #[59])])
  else if k == 7 then wW [(ByteArray.mk #[105, 110, 112, 117, 116])] ++ (wN n ++ wW [(ByteArray.mk #[59])])
  else wM false
def sL : List z02 → Int → Int → Wr
 | [], _, _ => Wr.nil
 | s :: r, b, p => sS s b p ++ sL r b p
def sA : List z0r → Int → Int → Wr
 | [], _, _ => Wr.nil
 | .mk t v bo :: r, b, p => wN t ++ (wW [(ByteArray.mk #[40])] ++ (wN v ++ (wW [(ByteArray.mk #[41])] ++ (inB (fun q => sL bo q p) b ++ sA r b p))))
end
theorem zjt (f : Int → Wr) (b : Int) (c : Nat) (h : ∀ q, (f q).ws.length ≤ c) : (inB f b).ws.length ≤ c + 2 := by
 have := h (b + 1)
 unfold inB; simp [wW, wD]; omega
mutual
theorem zwy : ∀ (s : z02) (b p : Int), (sS s b p).ws.length ≤ 5 * szS s
 | .mk k n t e c bo el ar, b, p => by
  have h1 := zg0 e p
  have h2 := zwx c p
  have h3 := zjt (fun q => sL bo q p) b _ fun q => zl8 bo q p
  have h4 := zjt (fun q => sL el q p) b _ fun q => zl8 el q p
  have h5 := zse ar b p
  have h6 := z89 bo
  have h7 := z89 el
  have h8 := zgu ar
  simp only [sS, szS]
  split
  ·simp [wN, wW]; omega
  ·split
   ·split <;> simp [wN, wW, Wr.nil] <;> omega
   ·split
    ·simp [wN, wW]; omega
    ·split
     ·simp [wN, wW]; omega
     ·split
      ·simp [wN, wW, wM]; omega
      ·split
       ·simp [wW]; omega
       ·split
        ·simp [wN, wW]; omega
        ·simp [wM]
theorem zl8 : ∀ (l : List z02) (b p : Int), (sL l b p).ws.length ≤ 5 * szL l
 | [], b, p => by simp [sL, Wr.nil]
 | s :: r, b, p => by
  have := zwy s b p
  have := zl8 r b p
  simp only [sL, szL, Wr.ws_app, List.length_append]; omega
theorem zse : ∀ (l : List z0r) (b p : Int), (sA l b p).ws.length ≤ 5 * szA l
 | [], b, p => by simp [sA, Wr.nil]
 | .mk t v bo :: r, b, p => by
  have := zjt (fun q => sL bo q p) b _ fun q => zl8 bo q p
  have := zse r b p
  simp only [sA, szA]; simp [wN, wW]; omega
theorem z89 : ∀ l : List z02, 1 ≤ szL l
 | [] => by simp [szL]
 | s :: r => by have := z89 r; simp only [szL]; omega
theorem zgu : ∀ l : List z0r, 1 ≤ szA l
 | [] => by simp [szA]
 | .mk t v bo :: r => by simp only [szA]; omega
end
end Go.Proofs.YtokjbpmjdcbogaaGreatDoor.Abs.Wri
/- The writer's statements are what WrC says. -/
namespace Go.Proofs.YtokjbpmjdcbogaaGreatDoor.Abs.Wri
open Go Go.RowKit
set_option linter.unusedVariables false
set_option linter.unusedSimpArgs false
theorem zju : ∀ l : List z02, l.length ≤ szL l
 | [] => by simp
 | s :: r => by
  have := zju r
  have : 4 ≤ szS s := by cases s; simp only [szS]; omega
  simp only [szL, List.length_cons]; omega
theorem zjv : ∀ l : List z0r, l.length ≤ szA l
 | [] => by simp
 | .mk t v b :: r => by
  have := zjv r
  simp only [szA, List.length_cons]; omega
/-! ### Blocks -/
/-! ### Arms -/
end Go.Proofs.YtokjbpmjdcbogaaGreatDoor.Abs.Wri
/- The writer's statements, at last. -/
namespace Go.Proofs.YtokjbpmjdcbogaaGreatDoor.Abs.Wri
open Go Go.RowKit
set_option linter.unusedVariables false
set_option linter.unusedSimpArgs false
end Go.Proofs.YtokjbpmjdcbogaaGreatDoor.Abs.Wri
/- ast.Words, told in plain words. -/
namespace Go.Proofs.YtokjbpmjdcbogaaGreatDoor.Abs.Wri
open Go Go.RowKit
set_option linter.unusedVariables false
set_option linter.unusedSimpArgs false
def zjw {β : Type} (g : Nat → β → Wr) : Nat → List β → Wr
 | _, [] => Wr.nil
 | i, x :: r => g i x ++ zjw g (i + 1) r
def sumN {β : Type} (c : β → Nat) : List β → Nat
 | [] => 0
 | x :: r => c x + sumN c r
abbrev TP := Bool × Bool × Int × Int × List ByteArray
/-! ### Processes -/
def wVar (_ : Nat) (v : ByteArray) : Wr := wW [(ByteArray.mk #[118, 97, 114])] ++ (wN v ++ wW [(ByteArray.mk #[59])])
def sP (p : z2d) : Wr := wW [(ByteArray.mk #[112, 114, 111, 99])] ++ (wN p.Name ++ (wW [(ByteArray.mk #[123])] ++ (zjw wVar 0 p.Vars ++ (sL p.Body 0 0 ++ wW [(ByteArray.mk #[125])]))))
def szP (p : z2d) : Nat := 1 + p.Vars.length + szL p.Body
/-! ### Rules -/
def zxt (_ : Nat) (m : z39) : Wr := wI m.From ++ (wN m.Tag ++ (wI m.To ++ wW [(ByteArray.mk #[59])]))
def sR (r : z2a) : Wr := wW [(ByteArray.mk #[114, 117, 108, 101])] ++ (wN r.Chan ++ (wW [(ByteArray.mk #[123])] ++ (zjw zxt 0 r.Moves ++ wW [(ByteArray.mk #[125])])))
def szR (r : z2a) : Nat := 1 + r.Moves.length
/-! ### Channels -/
def kindOk (k : Int) : Bool := decide (k ≥ 0) && decide (k < 3)
def zxu (k : Int) : ByteArray := match k with
 | 0 => ByteArray.mk #[98, 108, 111, 99, 107] | 1 => ByteArray.mk #[100, 114, 111, 112] | _ => ByteArray.mk #[108, 111, 115, 115, 121]
def wTag (i : Nat) (t : ByteArray) : Wr := if i = 0 then wN t else wW [(ByteArray.mk #[44])] ++ wN t
def sCh (c : z27) : Wr := wW [(ByteArray.mk #[99, 104, 97, 110])] ++ (wN c.Name ++ ((if kindOk c.Kind then wW [zxu c.Kind] else wM false) ++ (wI c.Size ++ (wW [(ByteArray.mk #[102, 114, 111, 109])] ++ (wN c.From ++ (wW [(ByteArray.mk #[116, 111])] ++ (wN c.To ++ (wW [(ByteArray.mk #[123])] ++ (wM (!c.Tags.isEmpty) ++ (zjw wTag 0 c.Tags ++ wW [(ByteArray.mk #[125]), (ByteArray.mk #[59])]))))))))))
def szCh (c : z27) : Nat := 3 + c.Tags.length
end Go.Proofs.YtokjbpmjdcbogaaGreatDoor.Abs.Wri
/- ast.Words, told in plain words: channels, and all. -/
namespace Go.Proofs.YtokjbpmjdcbogaaGreatDoor.Abs.Wri
open Go Go.RowKit
set_option linter.unusedVariables false
set_option linter.unusedSimpArgs false
/-! ### All -/
def sSys (s : z1g) : Wr := zjw (fun _ => sCh) 0 s.Chans ++ (zjw (fun _ => sR) 0 s.Rules ++ zjw (fun _ => sP) 0 s.Procs)
def zff (s : z1g) : Nat := sumN szCh s.Chans + sumN szR s.Rules + sumN szP s.Procs
theorem za6 {β : Type} {c : β → Nat} : ∀ {l : List β} {x : β}, x ∈ l → c x ≤ sumN c l
 | y :: r, x, h => by
  rcases List.mem_cons.1 h with rfl | h
  ·simp only [sumN]; omega
  ·have := za6 (c := c) h; simp only [sumN]; omega
theorem za7 {β : Type} {c : β → Nat} (h : ∀ x, 1 ≤ c x) : ∀ (l : List β), l.length ≤ sumN c l
 | [] => by simp
 | x :: r => by have := za7 h r; have := h x; simp only [sumN, List.length_cons]; omega
end Go.Proofs.YtokjbpmjdcbogaaGreatDoor.Abs.Wri
/- No word is long. -/
namespace Go.Proofs.YtokjbpmjdcbogaaGreatDoor.Abs.Wri
open Go Go.RowKit
set_option linter.unusedVariables false
set_option linter.unusedSimpArgs false
def Sm (x : Wr) : Prop := ∀ w ∈ x.ws, w.size ≤ 4194304
theorem Sm.app {x y : Wr} (h : Sm x) (k : Sm y) : Sm (x ++ y) := fun w hw => by
 rcases List.mem_append.1 hw with hw | hw
 ·exact h w hw
 ·exact k w hw
end Go.Proofs.YtokjbpmjdcbogaaGreatDoor.Abs.Wri
/- The statements' own systems, turned to the program's. -/
namespace Go.Proofs.YtokjbpmjdcbogaaGreatDoor.Abs.Wri
open Go Go.RowKit
set_option linter.unusedVariables false
set_option linter.unusedSimpArgs false
theorem zur {β γ O : Type} {body : Int × List γ → Option (Sum (Int × List γ) (Sum O (List γ)))} {n H : Nat} (f : β → γ) (a1 : List β) (hlen : a1.length ≤ 400000000000)
  (hs : ∀ (i : Nat) x acc, i < a1.length → idx a1 (i : Int) = some x → x ∈ a1 → acc.length = i → IntKind.i64.wrap ((i : Int) + 1) = ((i + 1 : Nat) : Int) → Sn n H (body ((i : Int), acc)) (.inl (((i + 1 : Nat) : Int), acc ++ [f x])))
  (he : ∀ acc, body ((a1.length : Int), acc) = some (.inr (.inr acc))) :
  ∀ (l : List β) (i : Nat) (acc : List γ), a1.drop i = l → i ≤ a1.length → acc.length = i → Sn n H (iter body ((i : Int), acc)) (.inr (acc ++ l.map f)) := by
 intro l
 induction l with
 | nil =>
  intro i acc hd hi ha
  have : i = a1.length := by have := List.drop_eq_nil_iff.1 hd; omega
  subst this
  exact .inl (by rw [z5v (he acc)]; simp)
 | cons s r ih =>
  intro i acc hd hi ha
  have hlt : i < a1.length := by
   refine Nat.lt_of_not_le fun h => ?_
   rw [List.drop_of_length_le h] at hd; cases hd
  rw [List.drop_eq_getElem_cons hlt] at hd
  injection hd with h1 h2
  have hi2 : idx a1 (i : Int) = some s := by rw [zhy hlt, h1]
  have hw : IntKind.i64.wrap ((i : Int) + 1) = ((i + 1 : Nat) : Int) := by rw [w64 (by omega) (by omega)]; omega
  have hm : s ∈ a1 := by rw [← h1]; exact List.getElem_mem hlt
  have h3 := hs i s acc hlt hi2 hm ha hw
  have h4 := ih (i + 1) (acc ++ [f s]) h2 hlt (by simp; omega)
  rw [z9v]
  refine Sn.bind h3 ?_
  simpa using h4
theorem ze5 {β γ O : Type} {body : Int × List γ → Option (Sum (Int × List γ) (Sum O (List γ)))} {n H : Nat} (f : β → γ) (a1 : List β) (hlen : a1.length ≤ 400000000000)
  (hs : ∀ (i : Nat) x acc, i < a1.length → idx a1 (i : Int) = some x → x ∈ a1 → acc.length = i → IntKind.i64.wrap ((i : Int) + 1) = ((i + 1 : Nat) : Int) → Sn n H (body ((i : Int), acc)) (.inl (((i + 1 : Nat) : Int), acc ++ [f x])))
  (he : ∀ acc, body ((a1.length : Int), acc) = some (.inr (.inr acc))) : Sn n H (iter body (0, [])) (.inr (a1.map f)) := by
 have := zur f a1 hlen hs he a1 0 [] rfl (by omega) rfl
 simpa using this
theorem zd2 {β γ O : Type} {body : Int × List γ → Option (Sum (Int × List γ) (Sum O (List γ)))} (f : β → γ) (a1 : List β) (hlen : a1.length ≤ 400000000000)
  (hs : ∀ (i : Nat) x acc, i < a1.length → idx a1 (i : Int) = some x → x ∈ a1 → acc.length = i → IntKind.i64.wrap ((i : Int) + 1) = ((i + 1 : Nat) : Int) → body ((i : Int), acc) = some (.inl (((i + 1 : Nat) : Int), acc ++ [f x])))
  (he : ∀ acc, body ((a1.length : Int), acc) = some (.inr (.inr acc))) : iter body (0, []) = some (.inr (a1.map f)) := by
 rcases ze5 (n := 0) (H := 0) f a1 hlen (fun i x acc h1 h2 h3 h4 h5 => .inl (hs i x acc h1 h2 h3 h4 h5)) he with h | ⟨_, h⟩
 ·exact h
 ·omega
/-! ### Expressions -/
mutual
def cE : z05 → z03
 | ⟨k, n, s, l⟩ => ⟨k, n, s, cEs l⟩
def cEs : List z05 → List z03
 | [] => []
 | e :: r => cE e :: cEs r
end
theorem zpf : ∀ l, cEs l = l.map cE
 | [] => rfl
 | e :: r => by simp only [cEs, List.map_cons, zpf r]
theorem zjx (e : z03) : 1 ≤ szE e := by cases e; simp only [szE]; omega
theorem zl9 : ∀ {l : List z05} {x : z05}, x ∈ l → szE (cE x) ≤ szEs (cEs l)
 | y :: r, x, h => by
  rcases List.mem_cons.1 h with rfl | h
  ·simp only [cEs, szEs]; omega
  ·have := zl9 h; simp only [cEs, szEs]; omega
theorem zla : ∀ l : List z05, l.length ≤ szEs (cEs l)
 | [] => by simp
 | e :: r => by have := zla r; have := zjx (cE e); simp only [cEs, szEs, List.length_cons]; omega
theorem cvE : ∀ (N : Nat) (e : z05), szE (cE e) ≤ N → N ≤ 400000000000 → ∀ n, Sn n (szE (cE e)) (z6m n e) (cE e) := by
 intro N
 induction N with
 | zero => intro e he; have := zjx (cE e); omega
 | succ N ih =>
  intro e he hN n
  obtain ⟨k, m, s, l⟩ := e
  simp only [cE, szE] at he ⊢
  cases n with
  | zero => exact .inr ⟨rfl, by omega⟩
  | succ n =>
   have hl := zla l
   have h := ze5 (n := n) (H := szEs (cEs l)) (body := z7q (z6m n) ⟨k, m, s, l⟩) cE l (by omega)
    (fun i x acc hi hx hm ha hw => by
     unfold z7q
     rw [if_pos (by simpa using hi)]
     simp only [hx, Option.bind_eq_bind, Option.bind_some, hw]
     have hz := zl9 hm
     refine Sn.bind (f := _) ((ih x (by omega) (by omega) n).mono hz) (.inl ?_)
     rw [z63 (by simp; omega)]
     rfl)
    (fun acc => by unfold z7q; rw [if_neg (by simp)])
   have t2 := (Sn.bind (f := Sum.elim (fun _ => none) (fun j1 => some (z03.mk k m s j1))) h (.inl (by rw [← zpf]; rfl : _ = some (z03.mk k m s (cEs l))))).up
   exact t2.mono (by omega)
theorem zjy {e : z05} (h : szE (cE e) ≤ 400000000000) : zcs e = some (cE e) := Sn.unf fun n => cvE _ e (Nat.le_refl _) h n
def cC (c : z4f) : z33 := ⟨c.Op, cE c.L, cE c.R⟩
theorem zus {c : z4f} (h : szC (cC c) ≤ 400000000000) : zct c = some (cC c) := by
 unfold szC cC at h
 simp only at h
 unfold zct
 rw [zjy (e := c.L) (by omega), zjy (e := c.R) (by omega)]
 rfl
/-! ### Statements -/
mutual
def cS : z0k → z02
 | .mk k n t e c b l a => .mk k n t (cE e) (cC c) (cL b) (cL l) (cA a)
def cL : List z0k → List z02
 | [] => []
 | s :: r => cS s :: cL r
def cA : List z4q → List z0r
 | [] => []
 | .mk t v b :: r => .mk t v (cL b) :: cA r
end
def cArm (x : z4q) : z0r := .mk x.Tag x.Var (cL x.Body)
theorem zlb : ∀ l, cL l = l.map cS
 | [] => rfl
 | e :: r => by simp only [cL, List.map_cons, zlb r]
theorem zi0 : ∀ l, cA l = l.map cArm
 | [] => rfl
 | .mk t v b :: r => by simp only [cA, List.map_cons, zi0 r]; rfl
theorem zsf : ∀ {l : List z0k} {x : z0k}, x ∈ l → szS (cS x) + 1 ≤ szL (cL l)
 | y :: r, x, h => by
  have := z89 (cL r)
  rcases List.mem_cons.1 h with rfl | h
  ·simp only [cL, szL]; omega
  ·have := zsf h; simp only [cL, szL]; omega
theorem zsg : ∀ {l : List z4q} {x : z4q}, x ∈ l → szL (cL x.Body) ≤ szA (cA l)
 | .mk t v b :: r, x, h => by
  rcases List.mem_cons.1 h with rfl | h
  ·simp only [cA, szA]; show szL (cL b) ≤ _; omega
  ·have := zsg h; simp only [cA, szA]; omega
theorem zwz : ∀ l : List z0k, l.length ≤ szL (cL l) := fun l => by
 have := zju (cL l)
 rw [zlb, List.length_map] at this
 rw [zlb]; exact this
theorem zsh : ∀ l : List z4q, l.length ≤ szA (cA l) := fun l => by
 have := zjv (cA l)
 rw [zi0, List.length_map] at this
 rw [zi0]; exact this
theorem cvL : ∀ (N : Nat) (l : List z0k), szL (cL l) ≤ N → N ≤ 400000000000 → ∀ n, Sn n (szL (cL l)) (z54 n l) (cL l) := by
 intro N
 induction N with
 | zero => intro l hl; have := z89 (cL l); omega
 | succ N ih =>
  intro l hl hN n
  cases n with
  | zero => exact .inr ⟨rfl, z89 _⟩
  | succ n =>
   have hll := zwz l
   have hp := z89 (cL l)
   have h := ze5 (n := n) (H := szL (cL l) - 1) (body := z78 (z54 n) l) cS l (by omega)
    (fun i x acc hi hx hm ha hw => by
     obtain ⟨k, nm, tg, e, c, bo, el, ar⟩ := x
     have hz := zsf hm
     simp only [cS, szS] at hz
     have p1 := z89 (cL bo)
     have p2 := z89 (cL el)
     have p3 := zgu (cA ar)
     unfold z78
     rw [if_pos (by simpa using hi)]
     simp only [hx, Option.bind_eq_bind, Option.bind_some, hw]
     dsimp only [z0k.Kind, z0k.Name, z0k.Tag, z0k.E, z0k.C, z0k.Body, z0k.Else, z0k.Arms]
     rw [zjy (e := e) (by omega), zus (c := c) (by omega)]
     simp only [Option.bind_some]
     have har := ze5 (n := n) (H := szL (cL l) - 1) (body := z77 (z54 n) (.mk k nm tg e c bo el ar)) cArm ar (by have := zsh ar; omega)
      (fun i x acc hi hx hm ha hw => by
       unfold z77
       rw [if_pos (by show decide ((i : Int) < (ar.length : Int)) = true; simpa using hi)]
       dsimp only [z0k.Arms]
       simp only [hx, Option.bind_eq_bind, Option.bind_some, hw]
       have hz := zsg hm
       refine Sn.bind (f := _) ((ih x.Body (by omega) (by omega) n).mono (by omega)) (.inl ?_)
       have := zsh ar
       rw [z63 (by simp; omega)]
       rfl)
      (fun acc => by unfold z77; rw [if_neg (by simp [z0k.Arms])])
     have kb := (ih bo (by omega) (by omega) n).mono (by omega : _ ≤ szL (cL l) - 1)
     have ke := (ih el (by omega) (by omega) n).mono (by omega : _ ≤ szL (cL l) - 1)
     have fin : ∀ v9, Sn n (szL (cL l) - 1) ((app 288 acc [v9]).bind fun v9 => some (Sum.inl (((i + 1 : Nat) : Int), v9)) : Option (Sum (Int × List z02) (Sum (List z02) (List z02)))) (.inl (((i + 1 : Nat) : Int), acc ++ [v9])) := fun v9 => .inl (by rw [z63 (by simp; omega)]; rfl)
     refine Sn.bind (f := _) kb (Sn.bind (f := _) ke (Sn.bind (f := _) har ?_))
     have := fin (.mk k nm tg (cE e) (cC c) (cL bo) (cL el) (ar.map cArm))
     rw [← zi0] at this
     simp only [cS]
     rw [← zi0]
     exact this)
    (fun acc => by unfold z78; rw [if_neg (by simp)])
   have t2 := (Sn.bind (f := Sum.elim (fun _ => none) (fun j1 => some j1)) h (.inl (by rw [← zlb]; rfl : _ = some (cL l)))).up
   exact t2.mono (by omega)
theorem zri {l : List z0k} (h : szL (cL l) ≤ 400000000000) : zes l = some (cL l) := Sn.unf fun n => cvL _ l (Nat.le_refl _) h n
end Go.Proofs.YtokjbpmjdcbogaaGreatDoor.Abs.Wri
/- The statements' own systems, turned to the program's; the text that each Ast law asks for. -/
namespace Go.Proofs.YtokjbpmjdcbogaaGreatDoor.Abs.Wri
open Go Go.RowKit
set_option linter.unusedVariables false
set_option linter.unusedSimpArgs false
def cCh (c : z8z) : z27 := ⟨c.Name, c.Kind, c.Size, c.From, c.To, c.Tags⟩
def cMo (m : z9w) : z39 := ⟨m.From, m.Tag, m.To⟩
def cRu (r : z90) : z2a := ⟨r.Chan, r.Moves.map cMo⟩
def cPr (p : z6p) : z2d := ⟨p.Name, p.Vars, cL p.Body⟩
def cSys (s : z38) : z1g := ⟨s.Chans.map cCh, s.Rules.map cRu, s.Procs.map cPr⟩
theorem zlc {β γ : Type} (c : γ → Nat) (f : β → γ) : ∀ l : List β, sumN c (l.map f) = sumN (fun x => c (f x)) l
 | [] => rfl
 | x :: r => by simp only [List.map_cons, sumN, zlc c f r]
theorem zwo {s : z38} (h : zff (cSys s) ≤ 400000000000) : z6e s = some (cSys s) := by
 unfold zff cSys at h
 simp only [zlc] at h
 have n1 := za7 (c := fun x => szCh (cCh x)) (fun x => by unfold szCh; omega) s.Chans
 have n2 := za7 (c := fun x => szR (cRu x)) (fun x => by unfold szR; omega) s.Rules
 have n3 := za7 (c := fun x => szP (cPr x)) (fun x => by unfold szP; omega) s.Procs
 unfold z6e
 rw [zd2 (body := z6a s) cCh s.Chans (by omega) (fun i x acc hi hx hm ha hw => by
   unfold z6a
   rw [if_pos (by simpa using hi)]
   simp only [hx, Option.bind_eq_bind, Option.bind_some, hw]
   have hz := za6 (c := fun x => szCh (cCh x)) hm
   have hz2 : szCh (cCh x) = 3 + x.Tags.length := rfl
   rw [z63 (by simp; omega)]
   simp only [Option.bind_some, List.nil_append]
   rw [z63 (by simp; omega)]
   rfl) (fun acc => by unfold z6a; rw [if_neg (by simp)])]
 simp only [Option.bind_eq_bind, Option.bind_some, Sum.elim_inr]
 rw [zd2 (body := z6c s) cRu s.Rules (by omega) (fun i x acc hi hx hm ha hw => by
   unfold z6c
   rw [if_pos (by simpa using hi)]
   simp only [hx, Option.bind_eq_bind, Option.bind_some, hw]
   have hz := za6 (c := fun x => szR (cRu x)) hm
   have hz2 : szR (cRu x) = 1 + (x.Moves.map cMo).length := rfl
   rw [List.length_map] at hz2
   rw [zd2 (body := z6b s ((i : Int), acc)) cMo x.Moves (by omega) (fun j y ac hj hy hym hya hw => by
    unfold z6b
    simp only [hx, Option.bind_eq_bind, Option.bind_some]
    rw [if_pos (by simpa using hj)]
    simp only [hy, Option.bind_eq_bind, Option.bind_some, hw]
    rw [z63 (by simp; omega)]
    rfl) (fun ac => by unfold z6b; simp only [hx, Option.bind_eq_bind, Option.bind_some]; rw [if_neg (by simp)])]
   simp only [Option.bind_some, Sum.elim_inr]
   rw [z63 (by simp; omega)]
   rfl) (fun acc => by unfold z6c; rw [if_neg (by simp)])]
 simp only [Option.bind_some, Sum.elim_inr]
 rw [zd2 (body := z6d s) cPr s.Procs (by omega) (fun i x acc hi hx hm ha hw => by
   unfold z6d
   rw [if_pos (by simpa using hi)]
   simp only [hx, Option.bind_eq_bind, Option.bind_some, hw]
   have hz := za6 (c := fun x => szP (cPr x)) hm
   have hz2 : szP (cPr x) = 1 + x.Vars.length + szL (cL x.Body) := rfl
   rw [z63 (by simp; omega)]
   simp only [Option.bind_some, List.nil_append]
   rw [zri (by omega)]
   simp only [Option.bind_some]
   rw [z63 (by simp; omega)]
   rfl) (fun acc => by unfold z6d; rw [if_neg (by simp)])]
 rfl
/-! ### One letter is a name -/
end Go.Proofs.YtokjbpmjdcbogaaGreatDoor.Abs.Wri
/- The reference's Lex, as it is printed, comes to what lexing is, of all texts of at most 4,194,304 bytes; its name is the program's. -/
namespace Go.Proofs.YtokjbpmjdcbogaaGreatDoor.Abs.Wri
open Go Go.RowKit
set_option linter.unusedVariables false
set_option linter.unusedSimpArgs false
/-! ### Loops over a list -/
theorem zqq {i : Nat} (h : i < 4611686018427387904) : IntKind.i64.wrap ((i : Int) + 1) = ((i + 1 : Nat) : Int) := by rw [w64 (by omega) (by omega)]; omega
/-- A loop that ends at the first that isn't. -/
theorem zrj {β O : Type} {body : Int → Option (Sum Int (Sum O Unit))} {n H : Nat} (l : List β) (p : β → Bool) (r : O) (hlen : l.length ≤ 4611686018427387904)
  (hs : ∀ (i : Nat) (x : β), l[i]? = some x → idx l (i : Int) = some x → x ∈ l → i < l.length → IntKind.i64.wrap ((i : Int) + 1) = ((i + 1 : Nat) : Int) → Sn n H (body (i : Int)) (if p x then .inl ((i + 1 : Nat) : Int) else .inr (.inl r)))
  (he : body (l.length : Int) = some (.inr (.inr ()))) : ∀ (m : List β) (i : Nat), l.drop i = m → i ≤ l.length → Sn n H (iter body (i : Int)) (if m.all p then .inr () else .inl r) := by
 intro m
 induction m with
 | nil =>
  intro i hd hi
  have : i = l.length := by have := List.drop_eq_nil_iff.1 hd; omega
  subst this
  exact .inl (by rw [z5v he]; rfl)
 | cons x m ih =>
  intro i hd hi
  have hlt : i < l.length := by
   refine Nat.lt_of_not_le fun h => ?_
   rw [List.drop_of_length_le h] at hd; cases hd
  rw [List.drop_eq_getElem_cons hlt] at hd
  injection hd with h1 h2
  have h3 := hs i x (by rw [← h1]; exact List.getElem?_eq_getElem hlt) (by rw [zhy hlt, h1]) (by rw [← h1]; exact List.getElem_mem hlt) hlt (zqq (by omega))
  rw [z9v]
  refine Sn.bind (f := _) h3 ?_
  cases hp : p x with
  | true =>
   have h4 := ih (i + 1) h2 hlt
   simp only [List.all_cons, hp, Bool.true_and, if_true]
   exact h4
  | false =>
   simp only [List.all_cons, hp, Bool.false_and, Bool.false_eq_true, if_false]
   exact .inl rfl
theorem zut {β O : Type} {body : Int → Option (Sum Int (Sum O Unit))} {n H : Nat} (l : List β) (p : β → Bool) (r : O) (hlen : l.length ≤ 4611686018427387904)
  (hs : ∀ (i : Nat) (x : β), l[i]? = some x → idx l (i : Int) = some x → x ∈ l → i < l.length → IntKind.i64.wrap ((i : Int) + 1) = ((i + 1 : Nat) : Int) → Sn n H (body (i : Int)) (if p x then .inl ((i + 1 : Nat) : Int) else .inr (.inl r)))
  (he : body (l.length : Int) = some (.inr (.inr ()))) : Sn n H (iter body 0) (if l.all p then .inr () else .inl r) := zrj l p r hlen hs he l 0 rfl (by omega)
/-! ### Letters, digits, reserved words -/
/-! ### sign -/
/-! ### Lex -/
end Go.Proofs.YtokjbpmjdcbogaaGreatDoor.Abs.Wri
/- Of the reference: what may be is what the writer finds no fault with. -/
namespace Go.Proofs.YtokjbpmjdcbogaaGreatDoor.Abs.Wri
open Go Go.RowKit
set_option linter.unusedVariables false
set_option linter.unusedSimpArgs false
theorem zb4 {α : Type} (x : Option α) : (x.bind fun v => some v) = x := by cases x <;> rfl
/-! ### Expressions -/
/-! ### Statements -/
/-! ### Systems -/
end Go.Proofs.YtokjbpmjdcbogaaGreatDoor.Abs.Wri
/- Of the reference: how deep something is, is what the writer reckons. -/
namespace Go.Proofs.YtokjbpmjdcbogaaGreatDoor.Abs.Wri
open Go Go.RowKit
set_option linter.unusedVariables false
set_option linter.unusedSimpArgs false
/-! ### Statements -/
def mx (x y : Nat × Nat) : Nat × Nat := (max x.1 y.1, max x.2 y.2)
end Go.Proofs.YtokjbpmjdcbogaaGreatDoor.Abs.Wri
/- Of the reference: the words are those that the writer puts. -/
namespace Go.Proofs.YtokjbpmjdcbogaaGreatDoor.Abs.Wri
open Go Go.RowKit
set_option linter.unusedVariables false
set_option linter.unusedSimpArgs false
/-! ### Numbers -/
section
variable {F : z05 → Option (List ByteArray)} {G : z05 → Bool → Option (List ByteArray)}
end
/-! ### Expressions -/
/-! ### Loops that put words -/
/-! ### Statements -/
/-! ### Systems -/
end Go.Proofs.YtokjbpmjdcbogaaGreatDoor.Abs.Wri
/- The program finds each system the same as itself. -/
namespace Go.Proofs.YtokjbpmjdcbogaaGreatDoor.Abs.Wri
open Go Go.RowKit
set_option linter.unusedVariables false
set_option linter.unusedSimpArgs false
theorem zld {β O : Type} {body : Int → Option (Sum Int (Sum O Unit))} {n H : Nat} (l : List β) (r : O) (hlen : l.length ≤ 4611686018427387904)
  (hs : ∀ (i : Nat) (x : β), idx l (i : Int) = some x → x ∈ l → i < l.length → IntKind.i64.wrap ((i : Int) + 1) = ((i + 1 : Nat) : Int) → Sn n H (body (i : Int)) (.inl ((i + 1 : Nat) : Int)))
  (he : body (l.length : Int) = some (.inr (.inr ()))) : Sn n H (iter body 0) (.inr ()) := by
 have h := zut (n := n) (H := H) l (fun _ => true) r hlen (fun i x h0 h1 h2 h3 h4 => by simpa using hs i x h1 h2 h3 h4) he
 have e : (l.all fun _ => true) = true := by simp
 rw [e] at h
 simpa using h
theorem zd3 {β O : Type} {body : Int → Option (Sum Int (Sum O Unit))} (l : List β) (r : O) (hlen : l.length ≤ 4611686018427387904)
  (hs : ∀ (i : Nat) (x : β), idx l (i : Int) = some x → x ∈ l → i < l.length → IntKind.i64.wrap ((i : Int) + 1) = ((i + 1 : Nat) : Int) → body (i : Int) = some (.inl ((i + 1 : Nat) : Int)))
  (he : body (l.length : Int) = some (.inr (.inr ()))) : iter body 0 = some (.inr ()) := by
 rcases zld (n := 0) (H := 0) l r hlen (fun i x h1 h2 h3 h4 => .inl (hs i x h1 h2 h3 h4)) he with h | ⟨_, h⟩
 ·exact h
 ·omega
theorem zcx {n : Int} : (n != n) = false := by simp
/-! ### Expressions -/
theorem zi1 : ∀ l : List z03, l.length ≤ szEs l
 | [] => by simp
 | e :: r => by have := zi1 r; have := zjx e; simp only [szEs, List.length_cons]; omega
theorem zi2 : ∀ {l : List z03} {x : z03}, x ∈ l → szE x ≤ szEs l
 | y :: r, x, h => by
  rcases List.mem_cons.1 h with rfl | h
  ·simp only [szEs]; omega
  ·have := zi2 h; simp only [szEs]; omega
mutual
theorem zsi : ∀ (e : z03), szE e ≤ 400000000000 → ∀ n, Sn n (2 * szE e) (z3n n e e) true
 | ⟨k, m, s, l⟩, hz, n => by
  simp only [szE] at hz ⊢
  have hm := zpg l (by omega)
  have hl := zi1 l
  have hL : ∀ n, Sn n (2 * szEs l + 1) (z1k n l l) true := fun n => by
   cases n with
   | zero => exact .inr ⟨rfl, by omega⟩
   | succ n =>
    simp only [z1k, zcx, Bool.false_eq_true, if_false]
    refine (Sn.bind (f := Sum.elim (fun r => some r) (fun j1 => some true)) (zld (O := Bool) (body := z3a (z3n n) (z1k n) l l) (n := n) (H := 2 * szEs l) l false (by omega) (fun i x hx hxm hlt hw => by
     unfold z3a
     rw [if_pos (by simpa using hlt), hx]
     simp only [Option.bind_eq_bind, Option.bind_some, hw]
     have := zi2 hxm
     exact Sn.bind (f := _) ((hm x hxm n).mono (by omega)) (.inl rfl)) (by unfold z3a; rw [if_neg (by simp)])) (.inl rfl)).up
  cases n with
  | zero => exact .inr ⟨rfl, by omega⟩
  | succ n =>
   have hj : ((if (k != k) = true then some true else if (k == 1) = true then (if (m != m) = true then some true else if (k == 2) = true then some (!(s.toList == s.toList)) else some false) else if (k == 2) = true then some (!(s.toList == s.toList)) else some false) : Option Bool) = some false := by
    cases (k == 1) <;> cases (k == 2) <;> simp
   simp only [z3n, hj, Option.bind_eq_bind, Option.bind_some, Bool.false_eq_true, if_false, zb4]
   exact (hL n).up.mono (by omega)
theorem zpg : ∀ (l : List z03), szEs l ≤ 400000000000 → ∀ x ∈ l, ∀ n, Sn n (2 * szE x) (z3n n x x) true
 | [], hz, x, h, n => by cases h
 | e :: r, hz, x, h, n => by
  simp only [szEs] at hz
  rcases List.mem_cons.1 h with h | h
  ·rw [h]; exact zsi e (by omega) n
  ·exact zpg r (by omega) x h n
end
theorem zph {e : z03} (h : szE e ≤ 400000000000) : z7b e e = some true := Sn.unf fun n => zsi e h n
theorem zx0 {c : z33} (h : szC c ≤ 400000000000) : z60 c c = some true := by
 unfold szC at h
 unfold z60
 rw [zph (e := c.L) (by omega), zph (e := c.R) (by omega)]
 simp
/-! ### Statements -/
theorem zrk : ∀ l : List z02, l.length ≤ szL l := zju
theorem zle : ∀ {l : List z02} {x : z02}, x ∈ l → szS x + 1 ≤ szL l
 | y :: r, x, h => by
  have := z89 r
  rcases List.mem_cons.1 h with rfl | h
  ·simp only [szL]; omega
  ·have := zle h; simp only [szL]; omega
theorem zlf : ∀ {l : List z0r} {x : z0r}, x ∈ l → szL x.Body + 3 ≤ szA l
 | .mk t v b :: r, x, h => by
  have := zgu r
  rcases List.mem_cons.1 h with rfl | h
  ·simp only [szA]; show szL b + 3 ≤ _; omega
  ·have := zlf h; simp only [szA]; omega
theorem ze6 {l : List z02} (hz : szL l ≤ 400000000000) (h : ∀ x ∈ l, ∀ n, Sn n (2 * szS x) (z2n n x x) true) (n : Nat) : Sn n (2 * szL l) (z0p n l l) true := by
 have hl := zrk l
 have hp := z89 l
 cases n with
 | zero => exact .inr ⟨rfl, by omega⟩
 | succ n =>
  simp only [z0p, zcx, Bool.false_eq_true, if_false]
  refine (Sn.bind (f := Sum.elim (fun r => some r) (fun j1 => some true)) (zld (O := Bool) (body := z3b (z0p n) (z2n n) (z14 n) (z34 n) l l) (n := n) (H := 2 * szL l - 1) l false (by omega) (fun i x hx hxm hlt hw => by
   unfold z3b
   rw [if_pos (by simpa using hlt), hx]
   simp only [Option.bind_eq_bind, Option.bind_some, hw]
   have := zle hxm
   exact Sn.bind (f := _) ((h x hxm n).mono (by omega)) (.inl rfl)) (by unfold z3b; rw [if_neg (by simp)])) (.inl rfl)).up.mono (by omega)
theorem zuu {l : List z0r} (hz : szA l ≤ 400000000000) (h : ∀ x ∈ l, ∀ n, Sn n (2 * szL x.Body + 1) (z34 n x x) true) (n : Nat) : Sn n (2 * szA l) (z14 n l l) true := by
 have hl := zjv l
 have hp := zgu l
 cases n with
 | zero => exact .inr ⟨rfl, by omega⟩
 | succ n =>
  simp only [z14, zcx, Bool.false_eq_true, if_false]
  refine (Sn.bind (f := Sum.elim (fun r => some r) (fun j1 => some true)) (zld (O := Bool) (body := z3o (z0p n) (z2n n) (z14 n) (z34 n) l l) (n := n) (H := 2 * szA l - 1) l false (by omega) (fun i x hx hxm hlt hw => by
   unfold z3o
   rw [if_pos (by simpa using hlt), hx]
   simp only [Option.bind_eq_bind, Option.bind_some, hw]
   have := zlf hxm
   exact Sn.bind (f := _) ((h x hxm n).mono (by omega)) (.inl rfl)) (by unfold z3o; rw [if_neg (by simp)])) (.inl rfl)).up.mono (by omega)
mutual
theorem zx1 : ∀ (s : z02), szS s ≤ 400000000000 → ∀ n, Sn n (2 * szS s) (z2n n s s) true
 | .mk k nm tg e c bo el ar, hz, n => by
  simp only [szS] at hz ⊢
  have p1 := z89 bo
  have hb := ze6 (l := bo) (by omega) (zi3 bo (by omega)) 
  have he := ze6 (l := el) (by omega) (zi3 el (by omega))
  have ha := zuu (l := ar) (by omega) (zsj ar (by omega))
  cases n with
  | zero => exact .inr ⟨rfl, by omega⟩
  | succ n =>
   simp only [z2n]
   dsimp only [z02.Kind, z02.Name, z02.Tag, z02.E, z02.C, z02.Body, z02.Else, z02.Arms]
   simp only [zcx, Bool.false_eq_true, if_false, beq_self_eq_true, if_true, zph (e := e) (by omega), zx0 (c := c) (by omega), Option.bind_eq_bind, Option.bind_some, zb4]
   refine Sn.mono (h := 2 * (4 + szE e + szC c + szL bo + szL el + szA ar) - 1 + 1) (Sn.up ?_) (by omega)
   cases (k == 1) with
   | true => exact .inl rfl
   | false =>
    simp only [Bool.false_eq_true, if_false]
    cases (k == 2) with
    | true =>
     simp only [if_true]
     exact Sn.bind (f := _) ((hb n).mono (by omega)) (by simp only [if_true]; exact (he n).mono (by omega))
    | false =>
     simp only [Bool.false_eq_true, if_false]
     cases (k == 3) with
     | true => simp only [if_true]; exact (hb n).mono (by omega)
     | false =>
      simp only [Bool.false_eq_true, if_false]
      cases (k == 4) with
      | true => exact .inl rfl
      | false =>
       simp only [Bool.false_eq_true, if_false]
       cases (k == 5) with
       | true => simp only [if_true]; exact (ha n).mono (by omega)
       | false =>
        simp only [Bool.false_eq_true, if_false]
        cases (k == 6) <;> cases (k == 7) <;> exact .inl rfl
theorem zi3 : ∀ (l : List z02), szL l ≤ 400000000000 → ∀ x ∈ l, ∀ n, Sn n (2 * szS x) (z2n n x x) true
 | [], hz, x, h, n => by cases h
 | e :: r, hz, x, h, n => by
  simp only [szL] at hz
  rcases List.mem_cons.1 h with h | h
  ·rw [h]; exact zx1 e (by omega) n
  ·exact zi3 r (by omega) x h n
theorem zsj : ∀ (l : List z0r), szA l ≤ 400000000000 → ∀ x ∈ l, ∀ n, Sn n (2 * szL x.Body + 1) (z34 n x x) true
 | [], hz, x, h, n => by cases h
 | .mk t v b :: r, hz, x, h, n => by
  simp only [szA] at hz
  rcases List.mem_cons.1 h with h | h
  ·rw [h]
   show Sn n (2 * szL b + 1) _ true
   have hb := ze6 (l := b) (by omega) (zi3 b (by omega))
   cases n with
   | zero => exact .inr ⟨rfl, by omega⟩
   | succ n =>
    simp only [z34]
    dsimp only [z0r.Tag, z0r.Var, z0r.Body]
    simp only [beq_self_eq_true, if_true, Option.bind_eq_bind, zb4]
    exact (hb n).up
  ·exact zsj r (by omega) x h n
end
theorem zx2 {l : List z02} (h : szL l ≤ 400000000000) : z5t l l = some true := Sn.unf fun n => ze6 h (zi3 l h) n
theorem zi4 {l : List ByteArray} (h : l.length ≤ 400000000000) : z31 l l = some true := by
 unfold z31
 rw [zd3 (body := z2p l l) l false (by omega) (fun i x hx hm hlt hw => by
  unfold z2p
  rw [if_pos (by simpa using hlt), hx]
  simp [hw]) (by unfold z2p; rw [if_neg (by simp)])]
 simp
theorem zmq {l : List z39} (h : l.length ≤ 400000000000) : zat l l = some true := by
 unfold zat
 rw [zd3 (body := z79 l l) l false (by omega) (fun i x hx hm hlt hw => by
  unfold z79
  rw [if_pos (by simpa using hlt), hx]
  simp [hw]) (by unfold z79; rw [if_neg (by simp)])]
 simp
theorem zrd {s : z1g} (h : zff s ≤ 400000000000) : za3 s s = some true := by
 have n1 := za7 (c := szCh) (fun x => by unfold szCh; omega) s.Chans
 have n2 := za7 (c := szR) (fun x => by unfold szR; omega) s.Rules
 have n3 := za7 (c := szP) (fun x => by unfold szP; omega) s.Procs
 unfold zff at h
 have e1 : z4o s.Rules s.Rules = some true := by
  unfold z4o
  rw [zd3 (body := z3m s.Rules s.Rules) s.Rules false (by omega) (fun i x hx hm hlt hw => by
   have hz := za6 (c := szR) hm
   unfold szR at hz
   unfold z3m zbe
   rw [if_pos (by simpa using hlt), hx]
   simp only [Option.bind_eq_bind, Option.bind_some]
   rw [zmq (by unfold szR at h; omega)]
   simp [hw]) (by unfold z3m; rw [if_neg (by simp)])]
  simp
 have e2 : z4p s.Procs s.Procs = some true := by
  unfold z4p
  rw [zd3 (body := z3p s.Procs s.Procs) s.Procs false (by omega) (fun i x hx hm hlt hw => by
   have hz := za6 (c := szP) hm
   unfold szP at hz
   unfold z3p zbf
   rw [if_pos (by simpa using hlt), hx]
   simp only [Option.bind_eq_bind, Option.bind_some]
   rw [zi4 (by unfold szP at h; omega), zx2 (by unfold szP at h; omega)]
   simp [hw]) (by unfold z3p; rw [if_neg (by simp)])]
  simp
 have e3 : z45 s.Chans s.Chans = some true := by
  unfold z45
  rw [zd3 (body := z3c s.Chans s.Chans) s.Chans false (by omega) (fun i x hx hm hlt hw => by
   have hz := za6 (c := szCh) hm
   unfold szCh at hz
   unfold z3c z94
   rw [if_pos (by simpa using hlt), hx]
   simp only [Option.bind_eq_bind, Option.bind_some]
   rw [zi4 (by unfold szCh at h; omega)]
   simp [hw]) (by unfold z3c; rw [if_neg (by simp)])]
  simp
 unfold za3
 rw [e1, e2, e3]
 simp
end Go.Proofs.YtokjbpmjdcbogaaGreatDoor.Abs.Wri
