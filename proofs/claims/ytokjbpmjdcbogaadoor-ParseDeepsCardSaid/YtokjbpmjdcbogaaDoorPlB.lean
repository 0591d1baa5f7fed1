/- The types of the statements' own systems, where the seat has none: what parsing tells. -/
import Derived.Test.YtokjbpmjdcbogaaDoorGwD
import Derived.Test.YtokjbpmjdcbogaaDoorHandA
import Derived.Test.YtokjbpmjdcbogaaDoorAbsU
namespace Go.Proofs.YtokjbpmjdcbogaaDoor.Abs
open Go Go.RowKit
set_option linter.unusedVariables false
structure z86 where
 Name : ByteArray
 Kind : Int
 Size : Int
 From : ByteArray
 To : ByteArray
 Tags : (List ByteArray)
structure z87 where
 From : Int
 Tag : ByteArray
 To : Int
structure z88 where
 Chan : ByteArray
 Moves : (List z87)
structure z3q where
 Kind : Int
 Num : Int
 Name : ByteArray
 Kids : (List z3q)
structure z7b where
 Op : Int
 L : z3q
 R : z3q
mutual
inductive z5n where
 | mk (Tag : ByteArray) (Var : ByteArray) (Body : (List z1r))
inductive z1r where
 | mk (Kind : Int) (Name : ByteArray) (Tag : ByteArray) (E : z3q) (C : z7b) (Body : (List z1r)) (Else : (List z1r)) (Arms : (List z5n))
end
def z5n.Tag : z5n → ByteArray
 | .mk x _ _ => x
def z5n.Var : z5n → ByteArray
 | .mk _ x _ => x
def z5n.Body : z5n → (List z1r)
 | .mk _ _ x => x
def z1r.Kind : z1r → Int
 | .mk x _ _ _ _ _ _ _ => x
def z1r.Name : z1r → ByteArray
 | .mk _ x _ _ _ _ _ _ => x
def z1r.Tag : z1r → ByteArray
 | .mk _ _ x _ _ _ _ _ => x
def z1r.E : z1r → z3q
 | .mk _ _ _ x _ _ _ _ => x
def z1r.C : z1r → z7b
 | .mk _ _ _ _ x _ _ _ => x
def z1r.Body : z1r → (List z1r)
 | .mk _ _ _ _ _ x _ _ => x
def z1r.Else : z1r → (List z1r)
 | .mk _ _ _ _ _ _ x _ => x
def z1r.Arms : z1r → (List z5n)
 | .mk _ _ _ _ _ _ _ x => x
structure z89 where
 Name : ByteArray
 Vars : (List ByteArray)
 Body : (List z1r)
structure z5v where
 Chans : (List z86)
 Rules : (List z88)
 Procs : (List z89)
end Go.Proofs.YtokjbpmjdcbogaaDoor.Abs
/- What lexing is, over lists of bytes, and small facts on bytes and rounds; no program in sight. -/
namespace Go.Proofs.YtokjbpmjdcbogaaDoor.Abs
open Go Go.RowKit
set_option linter.unusedVariables false
set_option linter.unusedSimpArgs false
theorem z9x {X O : Type} {body : X → Option (Sum X O)} {x y : X} (h : body x = some (.inl y)) : iter body x = iter body y := by rw [z8n, h]; rfl
theorem z58 {X O : Type} {body : X → Option (Sum X O)} {x : X} {r : O} (h : body x = some (.inr r)) : iter body x = some r := by rw [z8n, h]; rfl
theorem z6t {α : Type} {B : Nat} {L M : List α} (h : (L.length + M.length) * B ≤ 140737488355328) : app B L M = some (L ++ M) := by unfold app; rw [if_pos h]
theorem zlh {α : Type} {l : List α} {i : Nat} (h : i < l.length) : idx l (i : Int) = some l[i] := by
 unfold idx; rw [if_pos (by omega)]; simp [h]
/-! ### Bytes -/
theorem z3w (s : ByteArray) : s.data.toList.length = s.size := by rw [Array.length_toList]; rfl
theorem zp5 (s : ByteArray) (i : Nat) (h : i < s.data.toList.length) : bt s (i : Int) = ((s.data.toList[i]).toNat : Int) := by
 have h' : i < s.size := by rw [← z3w]; exact h
 have := zit s (i : Int) (by simpa using h')
 rw [← this]; simp; rfl
theorem ext_list (s : ByteArray) (a b : Nat) : (s.extract a b).data.toList = (s.data.toList.take b).drop a := by simp [List.drop_take]
theorem zfy (s : ByteArray) (a : Nat) : (s.extract a s.size).data.toList = s.data.toList.drop a := by
 rw [ext_list, List.take_of_length_le (by rw [z3w]; omega)]
theorem zad (s t : ByteArray) : (s ++ t).data.toList = s.data.toList ++ t.data.toList := by simp
theorem zc6 {s t : ByteArray} (h : s.data.toList = t.data.toList) : s = t := ByteArray.ext (Array.toList_inj.mp h)

/-! ### What lexing is -/
abbrev Bs := List UInt8
def isL (b : UInt8) : Bool := decide (97 ≤ b.toNat) && decide (b.toNat ≤ 122)
def isD (b : UInt8) : Bool := decide (48 ≤ b.toNat) && decide (b.toNat ≤ 57)
def isA (b : UInt8) : Bool := isL b || isD b
def isB (b : UInt8) : Bool := b == 32 || b == 10
def runL (l : Bs) : Nat := (l.takeWhile isA).length
def resv : List Bs := [[99, 104, 97, 110], [98, 108, 111, 99, 107], [100, 114, 111, 112], [108, 111, 115, 115, 121], [102, 114, 111, 109], [116, 111], [114, 117, 108, 101], [112, 114, 111, 99], [118, 97, 114], [105, 102], [101, 108, 115, 101], [119, 104, 105, 108, 101], [115, 101, 110, 100], [114, 101, 99, 118], [97, 115, 115, 101, 114, 116], [105, 110, 112, 117, 116]]
def dval (l : Bs) : Nat := l.foldl (fun a b => 10 * a + (b.toNat - 48)) 0
def zj6 (t : Bs) : Bool := decide (t.length ≤ 10) && !(decide (1 < t.length) && t.head? == some 48) && t.all isD && decide (dval t ≤ 2147483647)
def ones : Bs := [123, 125, 40, 41, 59, 44, 46, 61, 60, 62, 43, 45, 42, 47, 37]
def twos : Bs := [61, 33, 60, 62]
def zbf (l : Bs) : Nat :=
 if l[1]? = some 61 ∧ l.head? ∈ twos.map some then 2 else if l.head? ∈ ones.map some then 1 else 0
structure W where
 kind : Int
 len : Nat
 num : Nat
/-- The word that a text begins with, or the error. -/
def zb2 (l : Bs) : Except Int W :=
 match l with
 | [] => .error 2
 | b :: _ =>
  if isL b then (if 12 < runL l then .error 3 else .ok ⟨if l.take (runL l) ∈ resv then 4 else 1, runL l, 0⟩)
  else if isD b then (if zj6 (l.take (runL l)) then .ok ⟨2, runL l, dval (l.take (runL l))⟩ else .error 3)
  else if zbf l = 0 then .error 2 else .ok ⟨3, zbf l, 0⟩
theorem zh4 (b : UInt8) (r : Bs) : zb2 (b :: r) =
  if isL b then (if 12 < runL (b :: r) then .error 3 else .ok ⟨if (b :: r).take (runL (b :: r)) ∈ resv then 4 else 1, runL (b :: r), 0⟩)
  else if isD b then (if zj6 ((b :: r).take (runL (b :: r))) then .ok ⟨2, runL (b :: r), dval ((b :: r).take (runL (b :: r)))⟩ else .error 3)
  else if zbf (b :: r) = 0 then .error 2 else .ok ⟨3, zbf (b :: r), 0⟩ := rfl
structure Tok where
 kind : Int
 text : Bs
 num : Nat
 at_ : Nat
/-- All words from a place on, and the error with its place. -/
def lexS (l : Bs) (p : Nat) : List Tok × Option (Nat × Int) :=
 match l with
 | [] => ([], none)
 | b :: r =>
  if isB b then lexS r (p + 1)
  else match zb2 (b :: r) with
   | .error e => ([], some (p, e))
   | .ok w => let z := lexS (r.drop (w.len - 1)) (p + w.len); (⟨w.kind, (b :: r).take w.len, w.num, p⟩ :: z.1, z.2)
termination_by l.length
decreasing_by all_goals (simp; try omega)
/-- What is told. -/
def told (size : Nat) (z : List Tok × Option (Nat × Int)) : List Tok × Int × Int :=
 match z.2 with
 | some (p, e) => ([], (p : Int), e)
 | none => if 2000 < z.1.length then ([], (size : Int), 4) else (z.1, 0, 0)

/-! ### Facts -/
theorem zew (l : Bs) : runL l ≤ l.length := by
 unfold runL; have := List.takeWhile_prefix (p := isA) (l := l); exact this.length_le
theorem zdd (b : UInt8) (l : Bs) : runL (b :: l) = if isA b then runL l + 1 else 0 := by
 unfold runL; rw [List.takeWhile_cons]; split <;> simp
theorem zcc {b : UInt8} {l : Bs} (h : isA b = true) : 0 < runL (b :: l) := by rw [zdd, if_pos h]; omega
theorem zfz (l : Bs) : zbf l ≤ l.length := by
 unfold zbf
 split
 ·rename_i h; have := (List.getElem?_eq_some_iff.mp h.1).1; omega
 ·split
  ·rename_i h; cases l with
   | nil => simp at h
   | cons a t => simp
  ·omega
theorem zde {l : Bs} {w : W} (h : zb2 l = .ok w) : 0 < w.len ∧ w.len ≤ l.length := by
 cases l with
 | nil => simp [zb2] at h
 | cons b r =>
  simp only [zb2] at h
  split at h
  ·rename_i hb; split at h
   ·cases h
   ·cases h; exact ⟨zcc (by simp [isA, hb]), zew _⟩
  ·split at h
   ·rename_i hb; split at h
    ·cases h; exact ⟨zcc (by simp [isA, hb]), zew _⟩
    ·cases h
   ·split at h
    ·cases h
    ·rename_i hz; cases h; exact ⟨by simp; omega, zfz _⟩
theorem zkv (p : Nat) : lexS [] p = ([], none) := by rw [lexS]
theorem zh5 {b : UInt8} (r : Bs) (p : Nat) (h : isB b = true) : lexS (b :: r) p = lexS r (p + 1) := by rw [lexS, if_pos h]
theorem zh6 {b : UInt8} {r : Bs} {p : Nat} {e : Int} (h : isB b = false) (hw : zb2 (b :: r) = .error e) : lexS (b :: r) p = ([], some (p, e)) := by
 rw [lexS, if_neg (by simp [h]), hw]
theorem znh {b : UInt8} {r : Bs} {p : Nat} {w : W} (h : isB b = false) (hw : zb2 (b :: r) = .ok w) :
  lexS (b :: r) p = (⟨w.kind, (b :: r).take w.len, w.num, p⟩ :: (lexS ((b :: r).drop w.len) (p + w.len)).1, (lexS ((b :: r).drop w.len) (p + w.len)).2) := by
 rw [lexS, if_neg (by simp [h]), hw]
 have := (zde hw).1
 have e : (b :: r).drop w.len = r.drop (w.len - 1) := by
  obtain ⟨n, hn⟩ : ∃ n, w.len = n + 1 := ⟨w.len - 1, by omega⟩
  rw [hn]; simp
 rw [e]

/-! ### Numbers -/
def z9j (a : Nat) (b : UInt8) : Nat := 10 * a + (b.toNat - 48)
theorem zg0 (l : Bs) : ∀ a, a * 10 ^ l.length ≤ l.foldl z9j a := by
 induction l with
 | nil => intro a; simp
 | cons b r ih =>
  intro a
  have h := ih (z9j a b)
  simp only [List.foldl_cons, List.length_cons]
  refine Nat.le_trans ?_ h
  rw [Nat.pow_succ, Nat.mul_comm (10 ^ r.length) 10, ← Nat.mul_assoc]
  exact Nat.mul_le_mul_right _ (by unfold z9j; omega)
theorem zj7 (l : Bs) : dval l = l.foldl z9j 0 := rfl
theorem z9k (s : ByteArray) (i : Nat) (h : i < s.data.toList.length) : bidx s (i : Int) = some ((s.data.toList[i]).toNat : Int) := by
 have h' : i < s.size := by rw [← z3w]; exact h
 unfold bidx
 rw [if_pos (by omega), Int.toNat_natCast, getElem?_pos s i h']
 rfl
theorem zj8 {s : ByteArray} {a b : Nat} (h1 : a ≤ b) (h2 : b ≤ s.size) : ssub s (a : Int) (b : Int) = some (s.extract a b) := by
 unfold ssub; rw [if_pos ⟨by omega, by omega, by omega⟩]; simp
end Go.Proofs.YtokjbpmjdcbogaaDoor.Abs
/- lex.Lex, as it is printed, comes to what lexing is, of all texts of at most 4,194,304 bytes. -/
namespace Go.Proofs.YtokjbpmjdcbogaaDoor.Abs
open Go Go.RowKit
set_option linter.unusedVariables false
set_option linter.unusedSimpArgs false
theorem zcd (b : UInt8) : z6d (b.toNat : Int) = some (isL b) := by
 unfold z6d isL
 by_cases h : 97 ≤ b.toNat
 ·rw [if_pos (by simp; omega)]; simp only [h, decide_true, Bool.true_and]; exact congrArg some (decide_eq_decide.mpr (by omega))
 ·rw [if_neg (by simp; omega)]; simp only [h, decide_false, Bool.false_and]
theorem zex (b : UInt8) : z70 (b.toNat : Int) = some (isD b) := by
 unfold z70 isD
 by_cases h : 48 ≤ b.toNat
 ·rw [if_pos (by simp; omega)]; simp only [h, decide_true, Bool.true_and]; exact congrArg some (decide_eq_decide.mpr (by omega))
 ·rw [if_neg (by simp; omega)]; simp only [h, decide_false, Bool.false_and]
theorem zp6 (p : ByteArray) (hp : p.size ≤ 4194304) : ∀ (d i : Nat), p.size - i = d → i ≤ p.size →
  iter (z5q p) (i : Int) = some (.inr ((i + runL (p.data.toList.drop i) : Nat) : Int)) := by
 intro d
 induction d with
 | zero =>
  intro i hd hi
  have : i = p.size := by omega
  refine z58 ?_
  unfold z5q
  rw [if_neg (by simp; omega), List.drop_of_length_le (by rw [z3w]; omega)]
  simp [runL]
 | succ d ih =>
  intro i hd hi
  have hl : i < p.data.toList.length := by rw [z3w]; omega
  have e := List.drop_eq_getElem_cons hl
  have hb := z9k p i hl
  generalize p.data.toList[i] = b at e hb
  have hw : IntKind.i64.wrap ((i : Int) + 1) = ((i + 1 : Nat) : Int) := by rw [w64 (by omega) (by omega)]; omega
  have IH := ih (i + 1) (by omega) (by omega)
  have hs : (decide ((i : Int) < (p.size : Int))) = true := by simp; omega
  rw [e, zdd]
  by_cases hA : isA b = true
  ·rw [if_pos hA]
   rw [z9x (y := ((i + 1 : Nat) : Int)) ?_, IH]
   ·congr 2; omega
   ·unfold z5q
    rw [if_pos hs, hb]
    simp only [Option.bind_eq_bind, Option.bind_some, zcd, zex, hw]
    unfold isA at hA
    cases hL : isL b
    ·rw [hL] at hA; simp only [Bool.false_or] at hA; simp [hA]
    ·simp
  ·rw [if_neg hA]
   refine z58 ?_
   unfold z5q
   rw [if_pos hs, hb]
   simp only [Option.bind_eq_bind, Option.bind_some, zcd, zex]
   unfold isA at hA
   simp only [Bool.or_eq_true, not_or, Bool.not_eq_true] at hA
   simp [hA.1, hA.2]
theorem zpy (p : ByteArray) (hp : p.size ≤ 4194304) : z9u p = some ((runL p.data.toList : Nat) : Int) := by
 have := zp6 p hp p.size 0 (by omega) (by omega)
 unfold z9u
 rw [show ((0 : Int)) = ((0 : Nat) : Int) from rfl, this]
 simp
theorem zh7 (s : ByteArray) : z5y s = some (decide (s.data.toList ∈ resv)) := by
 unfold z5y
 simp only [Go.ByteArray.toList_eq]
 generalize s.data.toList = l
 by_cases hm : l ∈ resv
 ·have hm2 := hm
  unfold resv at hm2
  simp only [List.mem_cons, List.not_mem_nil, or_false] at hm2
  rcases hm2 with rfl | rfl | rfl | rfl | rfl | rfl | rfl | rfl | rfl | rfl | rfl | rfl | rfl | rfl | rfl | rfl
  all_goals rfl
 ·have hm2 := hm
  unfold resv at hm2
  simp only [List.mem_cons, List.not_mem_nil, or_false, not_or] at hm2
  obtain ⟨h0, h1, h2, h3, h4, h5, h6, h7, h8, h9, h10, h11, h12, h13, h14, h15⟩ := hm2
  simp only [hm, decide_false, beq_iff_eq, h0, h1, h2, h3, h4, h5, h6, h7, h8, h9, h10, h11, h12, h13, h14, h15, if_false]
theorem zni (s : ByteArray) (hp : s.size ≤ 12) : z71 s = some (⟨if s.data.toList ∈ resv then 4 else 1, s, 0, 0⟩, 0) := by
 unfold z71
 rw [if_neg (by simp; omega), zh7]
 by_cases hm : s.data.toList ∈ resv <;> simp [hm]
theorem zp7 (l : Bs) (c : UInt8) : (0 ≤ Lib.indexByte l c) ↔ c ∈ l := by
 induction l with
 | nil => simp [Lib.indexByte]
 | cons b r ih =>
  simp only [Lib.indexByte]
  have hge := Lib.indexByte_ge r c
  by_cases hb : (b == c) = true
  ·simp [(beq_iff_eq.mp hb).symm]
  ·have hb' : ¬ b = c := by simpa using hb
   simp only [hb, Bool.false_eq_true, if_false]
   by_cases hr : (Lib.indexByte r c == -1) = true
   ·simp only [hr, if_true]
    have : ¬ (0 ≤ Lib.indexByte r c) := by have := beq_iff_eq.mp hr; omega
    have : ¬ c ∈ r := fun h => this (ih.mpr h)
    simp [this, Ne.symm hb']
   ·simp only [hr, Bool.false_eq_true, if_false]
    have : ¬ Lib.indexByte r c = -1 := by simpa using hr
    have h2 : c ∈ r := ih.mp (by omega)
    simp [h2]; omega
theorem zpz (b : UInt8) : ((b.toNat : Int)).toNat.toUInt8 = b := by simp

theorem zj9 (l : Bs) (c : UInt8) : ∃ z, ze9 ⟨l.toArray⟩ (c.toNat : Int) = some z ∧ (decide (z ≥ 0) = decide (c ∈ l)) := by
 refine ⟨_, rfl, ?_⟩
 rw [zpz]
 exact decide_eq_decide.mpr (zp7 l c)
theorem zp8 (p : ByteArray) (h0 : 0 < p.size) : z9e p = some ((zbf p.data.toList : Nat) : Int) := by
 have hl0 : 0 < p.data.toList.length := by rw [z3w]; omega
 have hb0 := z9k p 0 hl0
 have e0 : p.data.toList.head? = some (p.data.toList[0]) := by rw [List.head?_eq_getElem?]; exact List.getElem?_eq_getElem hl0
 generalize p.data.toList[0] = a at e0 hb0
 obtain ⟨z1, hz1, hd1⟩ := zj9 ones a
 obtain ⟨z2, hz2, hd2⟩ := zj9 twos a
 have ho : (p.data.toList.head? ∈ ones.map some) ↔ a ∈ ones := by rw [e0]; simp
 have ht : (p.data.toList.head? ∈ twos.map some) ↔ a ∈ twos := by rw [e0]; simp
 have hS : zbf p.data.toList = if (p.data.toList[1]? = some 61 ∧ a ∈ twos) then 2 else if a ∈ ones then 1 else 0 := by
  unfold zbf; simp only [ht, ho]
 rw [hS]
 unfold z9e
 have hz1 : ze9 (ByteArray.mk #[123, 125, 40, 41, 59, 44, 46, 61, 60, 62, 43, 45, 42, 47, 37]) (a.toNat : Int) = some z1 := hz1
 have hz2 : ze9 (ByteArray.mk #[61, 33, 60, 62]) (a.toNat : Int) = some z2 := hz2
 have hb0 : bidx p 0 = some (a.toNat : Int) := hb0
 simp only [hb0, Option.bind_eq_bind, Option.bind_some, hz1, hz2, hd1, hd2]
 by_cases h1 : 1 < p.size
 ·have hl1 : 1 < p.data.toList.length := by rw [z3w]; omega
  have hb1 := z9k p 1 hl1
  have e1 : p.data.toList[1]? = some (p.data.toList[1]) := List.getElem?_eq_getElem hl1
  generalize p.data.toList[1] = c at e1 hb1
  have hb1 : bidx p 1 = some (c.toNat : Int) := hb1
  have hc61 : ((c.toNat : Int) == 61) = decide (c = 61) := by
   by_cases hc : c = 61
   ·subst hc; rfl
   ·have : ¬ ((c.toNat : Int) = 61) := by intro h; apply hc; apply UInt8.toNat_inj.mp; have : (61 : UInt8).toNat = 61 := rfl; omega
    simp [hc, this]
  have hgt : (decide ((p.size : Int) > 1)) = true := by simp; omega
  rw [e1]
  simp only [hgt, if_true, hb1, Option.bind_some, hc61]
  by_cases hc : c = 61 <;> by_cases hm : a ∈ twos <;> by_cases hn : a ∈ ones <;> simp [hc, hm, hn]
 ·have e1 : p.data.toList[1]? = none := List.getElem?_eq_none (by rw [z3w]; omega)
  have hgt : (decide ((p.size : Int) > 1)) = false := by simp; omega
  rw [e1]
  simp only [hgt]
  by_cases hn : a ∈ ones <;> simp [hn]
/-! ### lex.number -/
theorem zkw (b : UInt8) : digs.contains b = isD b := by
 rw [Bool.eq_iff_iff]
 constructor
 ·intro h
  have h : b ∈ digs := by simpa using h
  unfold digs at h
  simp only [List.mem_cons, List.not_mem_nil, or_false] at h
  rcases h with rfl | rfl | rfl | rfl | rfl | rfl | rfl | rfl | rfl | rfl <;> rfl
 ·intro h
  simp only [isD, Bool.and_eq_true, decide_eq_true_eq] at h
  have h2 : b.toNat = 48 ∨ b.toNat = 49 ∨ b.toNat = 50 ∨ b.toNat = 51 ∨ b.toNat = 52 ∨ b.toNat = 53 ∨ b.toNat = 54 ∨ b.toNat = 55 ∨ b.toNat = 56 ∨ b.toNat = 57 := by omega
  have e : ∀ n, b.toNat = n → b = UInt8.ofNat n := fun n h => by rw [← h]; simp
  rcases h2 with h | h | h | h | h | h | h | h | h | h <;> (rw [e _ h]; rfl)
theorem zja {p : UInt8 → Bool} {l : Bs} : l.dropWhile p = [] ↔ ∀ x ∈ l, p x = true := by
 induction l with
 | nil => simp
 | cons b r ih =>
  rw [List.dropWhile_cons]
  by_cases h : p b = true
  ·rw [if_pos h, ih]; simp [h]
  ·rw [if_neg h]; simp [h]
theorem zg1 (l : Bs) : (Lib.trimS l digs = []) ↔ (l.all isD = true) := by
 have hp : (fun b => digs.contains b) = isD := funext zkw
 unfold Lib.trimS Lib.trimLeftS Lib.trimRightS
 rw [show (digs.contains ·) = isD from hp]
 constructor
 ·intro h
  rw [zja] at h
  have h2 : List.dropWhile isD l.reverse = [] := by
   cases hm : List.dropWhile isD l.reverse with
   | nil => rfl
   | cons x m =>
    have h3 := List.head_dropWhile_not isD (l := l.reverse) (by rw [hm]; simp)
    have h4 := h x (by rw [List.mem_reverse, hm]; simp)
    simp only [hm, List.head_cons] at h3
    rw [h4] at h3; cases h3
  rw [zja] at h2
  exact List.all_eq_true.mpr fun x hx => h2 x (by simpa using hx)
 ·intro h
  have h1 : List.dropWhile isD l.reverse = [] := zja.mpr fun x hx => List.all_eq_true.mp h x (by simpa using hx)
  rw [h1]; rfl
theorem zp9 (l : Bs) (h : ∀ b ∈ l, isD b = true) : ∀ acc, acc ≤ 4294967295 →
  Lib.parseUintM 4294967295 acc l = if l.foldl z9j acc ≤ 4294967295 then .ok (l.foldl z9j acc) else .range := by
 induction l with
 | nil => intro acc ha; simp [Lib.parseUintM, ha]
 | cons c r ih =>
  intro acc ha
  have hc := h c List.mem_cons_self
  simp only [isD, Bool.and_eq_true, decide_eq_true_eq] at hc
  have hr := ih (fun x hx => h x (List.mem_cons_of_mem _ hx))
  rw [List.foldl_cons]
  simp only [Lib.parseUintM]
  rw [if_pos hc, if_neg (by omega)]
  have es : acc * 10 + (c.toNat - 48) = z9j acc c := by unfold z9j; omega
  rw [es]
  by_cases hM : 4294967295 < z9j acc c
  ·rw [if_pos hM, if_neg]
   have := zg0 r (z9j acc c)
   have hp : 1 ≤ 10 ^ r.length := Nat.one_le_pow _ _ (by omega)
   have := Nat.mul_le_mul_left (z9j acc c) hp
   omega
  ·rw [if_neg hM, hr _ (by omega)]
theorem zjb (c : UInt8) (r : Bs) (h : ∀ b ∈ c :: r, isD b = true) :
  Lib.parseIntB 32 (c :: r) = if dval (c :: r) ≤ 2147483647 then .ok ((dval (c :: r) : Nat) : Int) else .range := by
 have hc := h c List.mem_cons_self
 simp only [isD, Bool.and_eq_true, decide_eq_true_eq] at hc
 have hp := zp9 (c :: r) h 0 (by omega)
 simp only [Lib.parseIntB]
 rw [if_neg (by omega)]
 unfold Lib.parseUintB
 rw [if_neg (by simp)]
 rw [show (2 ^ 32 - 1 : Nat) = 4294967295 from rfl, hp, ← zj7]
 generalize dval (c :: r) = v
 have h45 : ¬ (c.toNat = 45) := by omega
 by_cases h1 : v ≤ 4294967295
 ·rw [if_pos h1]
  by_cases h2 : v ≤ 2147483647
  ·rw [if_pos h2]; dsimp only; rw [if_neg (by rintro ⟨_, h⟩; omega), if_neg (by rintro ⟨h, _⟩; exact h45 h), if_neg h45]
  ·rw [if_neg h2]; dsimp only; rw [if_pos ⟨h45, by omega⟩]
 ·rw [if_neg h1, if_neg (by omega)]
theorem zkx (c : UInt8) (r : Bs) (hc : isD c = true) (h48 : c ≠ 48) (hv : dval (c :: r) ≤ 2147483647) : (c :: r).length ≤ 10 := by
 simp only [isD, Bool.and_eq_true, decide_eq_true_eq] at hc
 have h1 : c.toNat ≠ 48 := fun h => h48 (UInt8.toNat_inj.mp (by rw [h]; rfl))
 rw [zj7, List.foldl_cons] at hv
 have hg := zg0 r (z9j 0 c)
 have hs : 1 ≤ z9j 0 c := by unfold z9j; omega
 have h2 : 10 ^ r.length ≤ 2147483647 := by
  have := Nat.mul_le_mul_right (10 ^ r.length) hs
  omega
 have h3 : r.length < 10 := by
  refine Decidable.byContradiction fun hn => ?_
  have : 10 ^ 10 ≤ 10 ^ r.length := Nat.pow_le_pow_right (by omega) (by omega)
  have : (10 : Nat) ^ 10 = 10000000000 := by decide
  omega
 simp; omega
theorem zky (s : ByteArray) (c : UInt8) (r : Bs) (e : s.data.toList = c :: r) (hc : isD c = true) (hs : s.size ≤ 4194304) :
  zaw s = if zj6 (c :: r) then some (((dval (c :: r) : Nat) : Int), 0) else some (0, 3) := by
 have hsz : s.size = (c :: r).length := by rw [← e, z3w]
 have hb := zp5 s 0 (by rw [e]; simp)
 have hb : bt s 0 = (c.toNat : Int) := by simpa [e] using hb
 have h48 : (bt s 0 = 48) ↔ c = 48 := by
  rw [hb]; constructor
  ·intro h; exact UInt8.toNat_inj.mp (by have : (48 : UInt8).toNat = 48 := rfl; omega)
  ·rintro rfl; rfl
 unfold zaw zj6
 rw [if_pos (by omega), e, hsz]
 have hh : ((c :: r).head? == some 48) = decide (c = 48) := by
  by_cases h : c = 48
  ·subst h; rfl
  ·simp [h]
 rw [hh]
 by_cases hall : (c :: r).all isD = true
 ·have ht := (zg1 (c :: r)).mpr hall
  by_cases h1 : 1 < (c :: r).length ∧ c = 48
  ·rw [if_pos (.inr ⟨h1.1, h48.mpr h1.2⟩)]
   rw [if_neg]
   simp only [Bool.and_eq_true, decide_eq_true_eq, Bool.not_eq_true', Bool.and_eq_false_iff, decide_eq_false_iff_not]
   rintro ⟨⟨⟨_, h | h⟩, _⟩, _⟩
   ·exact h h1.1
   ·exact h h1.2
  ·rw [if_neg (by rintro (h | ⟨h, h'⟩); exact h ht; exact h1 ⟨h, h48.mp h'⟩), zjb c r (fun b hb => List.all_eq_true.mp hall b hb)]
   by_cases hv : dval (c :: r) ≤ 2147483647
   ·have hl : (c :: r).length ≤ 10 := by
     by_cases hz : c = 48
     ·have : ¬ 1 < (c :: r).length := fun h => h1 ⟨h, hz⟩
      omega
     ·exact zkx c r hc hz hv
    rw [if_pos hv, if_pos]
    simp only [Bool.and_eq_true, hall, decide_eq_true_eq, hv, hl, and_true, true_and, Bool.not_eq_true', Bool.and_eq_false_iff, decide_eq_false_iff_not]
    by_cases hz : c = 48
    ·left; exact fun h => h1 ⟨h, hz⟩
    ·right; exact hz
   ·rw [if_neg hv, if_neg]
    simp only [Bool.and_eq_true, decide_eq_true_eq, hv, and_false, not_false_eq_true]
 ·rw [if_pos (.inl fun h => hall ((zg1 _).mp h)), if_neg]
  intro h
  simp only [Bool.and_eq_true] at h
  exact hall h.1.2

/-! ### lex.word, lex.Lex -/
theorem zpa (p : ByteArray) (b : UInt8) (r : Bs) (e : p.data.toList = b :: r) (hp : p.size ≤ 4194304) :
  match zb2 (b :: r) with
  | .ok w => z79 p = some (⟨w.kind, p.extract 0 w.len, (w.num : Int), 0⟩, 0)
  | .error c => ∃ x, c ≠ 0 ∧ z79 p = some (x, c) := by
 have hsz : p.size = (b :: r).length := by rw [← e, z3w]
 have h0 : 0 < p.size := by rw [hsz]; simp
 have hb : bidx p 0 = some (b.toNat : Int) := by
  have := z9k p 0 (by rw [e]; simp)
  simpa [e] using this
 have hrun := zpy p hp
 rw [e] at hrun
 have hrl := zew (b :: r)
 have hxl : (p.extract 0 (runL (b :: r))).data.toList = (b :: r).take (runL (b :: r)) := by rw [ext_list, e]; simp
 have hxs : (p.extract 0 (runL (b :: r))).size = runL (b :: r) := by rw [← z3w, hxl, List.length_take]; omega
 have hcut : ∀ n : Nat, n ≤ p.size → ssub p 0 (n : Int) = some (p.extract 0 n) := fun n hn => zj8 (Nat.zero_le _) hn
 unfold z79
 simp only [hb, Option.bind_eq_bind, Option.bind_some, zcd, zex]
 rw [zh4]
 by_cases hL : isL b = true
 ·rw [if_pos hL, if_pos hL, hrun]
  simp only [Option.bind_some, hcut _ (by omega : runL (b :: r) ≤ p.size)]
  by_cases h12 : 12 < runL (b :: r)
  ·rw [if_pos h12]
   refine ⟨⟨0, ByteArray.mk #[], 0, 0⟩, by decide, ?_⟩
   unfold z71
   rw [if_pos (by simp [hxs]; omega)]; rfl
  ·rw [if_neg h12, zni _ (by omega), hxl]; rfl
 ·rw [if_neg hL, if_neg hL]
  by_cases hD : isD b = true
  ·have hxe : (p.extract 0 (runL (b :: r))).data.toList = b :: r.take (runL (b :: r) - 1) := by
    rw [hxl]
    have := zcc (b := b) (l := r) (by simp [isA, hD])
    obtain ⟨n, hn⟩ : ∃ n, runL (b :: r) = n + 1 := ⟨runL (b :: r) - 1, by omega⟩
    rw [hn]; simp
   have hnum := zky (p.extract 0 (runL (b :: r))) b _ hxe hD (by omega)
   rw [← hxe, hxl] at hnum
   rw [if_pos hD, if_pos hD, hrun]
   simp only [Option.bind_some, hcut _ (by omega : runL (b :: r) ≤ p.size), hnum]
   by_cases ho : zj6 ((b :: r).take (runL (b :: r))) = true
   ·rw [if_pos ho, if_pos ho]; rfl
   ·rw [if_neg ho, if_neg ho]; exact ⟨_, by decide, rfl⟩
  ·rw [if_neg hD, if_neg hD, zp8 p h0, e]
   have hsl := zfz (b :: r)
   simp only [Option.bind_some]
   by_cases hz : zbf (b :: r) = 0
   ·rw [if_pos hz, if_pos (by simp [hz])]
    exact ⟨_, by decide, rfl⟩
   ·rw [if_neg hz, if_neg (by simpa using hz), hcut _ (by omega)]; rfl
def tokT (t : Tok) : z07 := ⟨t.kind, ⟨t.text.toArray⟩, (t.num : Int), (t.at_ : Int)⟩
def finT (size : Nat) (z : List Tok × Option (Nat × Int)) : List z07 × Int × Int :=
 ((told size z).1.map tokT, (told size z).2.1, (told size z).2.2)
theorem zkz (size : Nat) (acc : List Tok) (p : Nat) (e : Int) : finT size (acc, some (p, e)) = ([], (p : Int), e) := rfl
theorem zpb (s : ByteArray) (hs : s.size ≤ 4194304) : ∀ (d i : Nat) (acc : List Tok), s.size - i = d → i ≤ s.size → acc.length ≤ i →
  (iter (z5r s) ((i : Int), acc.map tokT) >>= Sum.elim (fun r => some r) (fun j1 => if (decide ((j1.length : Int) > 2000)) then (some ([], (s.size : Int), 4)) else (some (j1, 0, 0)))) = some (finT s.size (acc ++ (lexS (s.data.toList.drop i) i).1, (lexS (s.data.toList.drop i) i).2)) := by
 intro d
 induction d using Nat.strongRecOn with
 | _ d ih =>
 intro i acc hd hi ha
 by_cases hlt : i < s.size
 ·have hl : i < s.data.toList.length := by rw [z3w]; omega
  have e := List.drop_eq_getElem_cons hl
  have hb := z9k s i hl
  generalize s.data.toList[i] = b at e hb
  have hw : IntKind.i64.wrap ((i : Int) + 1) = ((i + 1 : Nat) : Int) := by rw [w64 (by omega) (by omega)]; omega
  have hs1 : (decide ((i : Int) < (s.size : Int))) = true := by simp; omega
  have h32 : ((b.toNat : Int) == 32) = (b == 32) := by
   rw [Bool.eq_iff_iff, beq_iff_eq, beq_iff_eq]
   constructor
   ·intro h; exact UInt8.toNat_inj.mp (by have : (32 : UInt8).toNat = 32 := rfl; omega)
   ·rintro rfl; rfl
  have h10 : ((b.toNat : Int) == 10) = (b == 10) := by
   rw [Bool.eq_iff_iff, beq_iff_eq, beq_iff_eq]
   constructor
   ·intro h; exact UInt8.toNat_inj.mp (by have : (10 : UInt8).toNat = 10 := rfl; omega)
   ·rintro rfl; rfl
  have hJ : (if (b == 32) = true then some true else some (b == 10)) = some (isB b) := by
   unfold isB; cases (b == 32) <;> simp
  have hbody : z5r s ((i : Int), acc.map tokT) = (if isB b then some (.inl (((i + 1 : Nat) : Int), acc.map tokT)) else
    (ssub s (i : Int) (s.size : Int) >>= fun v3 => z79 v3 >>= fun v4 => if (v4.2 != 0) then (some (.inr (.inl ([], (i : Int), v4.2))))
     else (app 40 (acc.map tokT) [(z07.mk v4.1.Kind v4.1.Text v4.1.Num (i : Int))] >>= fun v5 => some (.inl ((IntKind.i64.wrap ((i : Int) + (v4.1.Text.size : Int))), v5))))) := by
   unfold z5r
   rw [if_pos hs1]
   simp only [hb, Option.bind_eq_bind, Option.bind_some, h32, h10, hw, hJ]
  rw [e]
  by_cases hB : isB b = true
  ·rw [zh5 _ _ hB, z9x (y := (((i + 1 : Nat) : Int), acc.map tokT)) (by rw [hbody, if_pos hB])]
   exact ih (s.size - (i + 1)) (by omega) (i + 1) acc rfl (by omega) (by omega)
  ·have hB' : isB b = false := by simpa using hB
   rw [if_neg hB, zj8 (by omega) (Nat.le_refl _)] at hbody
   simp only [Option.bind_eq_bind, Option.bind_some] at hbody
   have hpl : (s.extract i s.size).data.toList = b :: s.data.toList.drop (i + 1) := by rw [zfy, e]
   have hps : (s.extract i s.size).size ≤ 4194304 := by rw [ByteArray.size_extract]; omega
   have hwd := zpa (s.extract i s.size) b _ hpl hps
   cases hw1 : zb2 (b :: s.data.toList.drop (i + 1)) with
   | error c =>
    rw [hw1] at hwd
    obtain ⟨x, hc, hE⟩ := hwd
    rw [hE] at hbody
    simp only [Option.bind_some] at hbody
    rw [if_pos (by simpa using hc)] at hbody
    rw [z58 hbody, zh6 hB' hw1, zkz]
    rfl
   | ok w =>
    rw [hw1] at hwd
    have hlen := zde hw1
    have hlen2 : w.len ≤ s.size - i := by
     have := hlen.2
     rw [← hpl, zfy, List.length_drop, z3w] at this
     exact this
    have hx : (s.extract i s.size).extract 0 w.len = (⟨((b :: s.data.toList.drop (i + 1)).take w.len).toArray⟩ : ByteArray) := by
     refine zc6 ?_
     rw [ext_list, hpl]; simp
    have hxs : ((⟨((b :: s.data.toList.drop (i + 1)).take w.len).toArray⟩ : ByteArray)).size = w.len := by
     rw [← z3w]; simp only [List.length_take]
     omega
    have hd2 : (b :: s.data.toList.drop (i + 1)).drop w.len = s.data.toList.drop (i + w.len) := by
     rw [← e, List.drop_drop]
    rw [hwd] at hbody
    simp only [Option.bind_some] at hbody
    rw [if_neg (by simp), z6t (by simp; omega)] at hbody
    simp only [Option.bind_some] at hbody
    rw [hx, hxs, w64 (by omega) (by omega)] at hbody
    have IH := ih (s.size - (i + w.len)) (by omega) (i + w.len) (acc ++ [(⟨w.kind, (b :: s.data.toList.drop (i + 1)).take w.len, w.num, i⟩ : Tok)]) rfl (by omega) (by simp; omega)
    rw [z9x hbody, znh hB' hw1, hd2]
    simp only [List.map_append, List.map_cons, List.map_nil, List.append_assoc, List.cons_append, List.nil_append] at IH
    rw [← show (((i + w.len : Nat) : Int)) = (i : Int) + (w.len : Int) by push_cast; rfl]
    exact IH
 ·have hie : i = s.size := by omega
  have hnil : s.data.toList.drop i = [] := List.drop_of_length_le (by rw [z3w]; omega)
  rw [hnil, zkv]
  rw [z58 (r := .inr (acc.map tokT)) (by unfold z5r; rw [if_neg (by simp; omega)])]
  simp only [List.append_nil, finT, told, List.length_map, Option.bind_eq_bind, Option.bind_some, Sum.elim_inr]
  by_cases h2 : 2000 < acc.length
  ·rw [if_pos (by simp; omega), if_pos h2]; rfl
  ·rw [if_neg (by simp; omega), if_neg h2]
theorem zpx (s : ByteArray) (hs : s.size ≤ 4194304) : z8q s = some (finT s.size (lexS s.data.toList 0)) := by
 have := zpb s hs s.size 0 [] (by omega) (by omega) (by simp)
 unfold z8q
 simpa using this
end Go.Proofs.YtokjbpmjdcbogaaDoor.Abs
/- What the writer puts, in plain words: words, whether something can't be, whether it is too deep. -/
namespace Go.Proofs.YtokjbpmjdcbogaaDoor.Abs.Wri
open Go Go.RowKit
set_option linter.unusedVariables false
set_option linter.unusedSimpArgs false
/-! ### With as much fuel as is enough -/
def Sn {α : Type} (n h : Nat) (x : Option α) (r : α) : Prop := x = some r ∨ (x = none ∧ n < h)
theorem Sn.pure {α : Type} {n h : Nat} {x : Option α} {r : α} (e : x = some r) : Sn n h x r := .inl e
theorem Sn.mono {α : Type} {n h h' : Nat} {x : Option α} {r : α} (s : Sn n h x r) (hh : h ≤ h') : Sn n h' x r := s.imp id fun ⟨a, b⟩ => ⟨a, by omega⟩
theorem Sn.bind {α β : Type} {n h : Nat} {x : Option α} {f : α → Option β} {r : α} {t : β} (s : Sn n h x r) (k : Sn n h (f r) t) : Sn n h (x >>= f) t := by
 rcases s with rfl | ⟨rfl, hn⟩
 ·exact k
 ·exact .inr ⟨rfl, hn⟩
theorem Sn.up {α : Type} {n h : Nat} {x : Option α} {r : α} (s : Sn n h x r) : Sn (n + 1) (h + 1) x r := s.imp id fun ⟨a, b⟩ => ⟨a, by omega⟩
theorem Sn.unf {α : Type} {f : Nat → Option α} {r : α} {h : Nat} (s : ∀ n, Sn n h (f n) r) : unf f = some r := by
 refine zl5 h ?_ fun m t hm => ?_
 ·rcases s h with e | ⟨_, e⟩
  ·exact e
  ·omega
 ·rcases s m with e | ⟨e, _⟩
  ·rw [hm] at e; exact Option.some.inj e
  ·rw [hm] at e; cases e
/-! ### What is put -/
structure Wr where
 ws : List ByteArray
 bad : Bool
 dp : Bool
def Wr.app (x y : Wr) : Wr := ⟨x.ws ++ y.ws, x.bad || y.bad, x.dp || y.dp⟩
instance : Append Wr := ⟨Wr.app⟩
@[simp] theorem Wr.ws_app (x y : Wr) : (x ++ y).ws = x.ws ++ y.ws := rfl
@[simp] theorem Wr.bad_app (x y : Wr) : (x ++ y).bad = (x.bad || y.bad) := rfl
@[simp] theorem Wr.dp_app (x y : Wr) : (x ++ y).dp = (x.dp || y.dp) := rfl
def Wr.nil : Wr := ⟨[], false, false⟩
/-! ### Expressions -/
end Go.Proofs.YtokjbpmjdcbogaaDoor.Abs.Wri
/- The statements' own systems, turned to the program's. -/
namespace Go.Proofs.YtokjbpmjdcbogaaDoor.Abs.Wri
open Go Go.RowKit
set_option linter.unusedVariables false
set_option linter.unusedSimpArgs false
/-! ### Expressions -/
mutual
def cE : z3q → z03
 | ⟨k, n, s, l⟩ => ⟨k, n, s, cEs l⟩
def cEs : List z3q → List z03
 | [] => []
 | e :: r => cE e :: cEs r
end
def cC (c : z7b) : z3p := ⟨c.Op, cE c.L, cE c.R⟩
/-! ### Statements -/
mutual
def cS : z1r → z04
 | .mk k n t e c b l a => .mk k n t (cE e) (cC c) (cL b) (cL l) (cA a)
def cL : List z1r → List z04
 | [] => []
 | s :: r => cS s :: cL r
def cA : List z5n → List z27
 | [] => []
 | .mk t v b :: r => .mk t v (cL b) :: cA r
end
def cArm (x : z5n) : z27 := .mk x.Tag x.Var (cL x.Body)
end Go.Proofs.YtokjbpmjdcbogaaDoor.Abs.Wri
/- The statements' own systems, turned to the program's; the text that each Ast law asks for. -/
namespace Go.Proofs.YtokjbpmjdcbogaaDoor.Abs.Wri
open Go Go.RowKit
set_option linter.unusedVariables false
set_option linter.unusedSimpArgs false
def cCh (c : z86) : z2y := ⟨c.Name, c.Kind, c.Size, c.From, c.To, c.Tags⟩
def cMo (m : z87) : z47 := ⟨m.From, m.Tag, m.To⟩
def cRu (r : z88) : z3h := ⟨r.Chan, r.Moves.map cMo⟩
def cPr (p : z89) : z3i := ⟨p.Name, p.Vars, cL p.Body⟩
def cSys (s : z5v) : z2h := ⟨s.Chans.map cCh, s.Rules.map cRu, s.Procs.map cPr⟩
/-! ### One letter is a name -/
end Go.Proofs.YtokjbpmjdcbogaaDoor.Abs.Wri
/- The reference's Lex, as it is printed, comes to what lexing is, of all texts of at most 4,194,304 bytes; its name is the program's. -/
namespace Go.Proofs.YtokjbpmjdcbogaaDoor.Abs.Wri
open Go Go.RowKit
set_option linter.unusedVariables false
set_option linter.unusedSimpArgs false
/-! ### Loops over a list -/
theorem zmy {i : Nat} (h : i < 4611686018427387904) : IntKind.i64.wrap ((i : Int) + 1) = ((i + 1 : Nat) : Int) := by rw [w64 (by omega) (by omega)]; omega
/-! ### Letters, digits, reserved words -/
/-! ### sign -/
/-! ### Lex -/
end Go.Proofs.YtokjbpmjdcbogaaDoor.Abs.Wri
/- Of the reference: what may be is what the writer finds no fault with. -/
namespace Go.Proofs.YtokjbpmjdcbogaaDoor.Abs.Wri
open Go Go.RowKit
set_option linter.unusedVariables false
set_option linter.unusedSimpArgs false
/-! ### Expressions -/
/-! ### Statements -/
/-! ### Systems -/
end Go.Proofs.YtokjbpmjdcbogaaDoor.Abs.Wri
/- The program finds each system the same as itself. -/
namespace Go.Proofs.YtokjbpmjdcbogaaDoor.Abs.Wri
open Go Go.RowKit
set_option linter.unusedVariables false
set_option linter.unusedSimpArgs false
theorem zkc {n : Int} : (n != n) = false := by simp
/-! ### Expressions -/
/-! ### Statements -/
end Go.Proofs.YtokjbpmjdcbogaaDoor.Abs.Wri
