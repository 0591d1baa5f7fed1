/- What lexing is, over lists of bytes, and small facts on bytes and rounds; no program in sight. -/
import Derived.Test.YtokjbpmjdcbogaaGreatDoorHandA
import Derived.Test.YtokjbpmjdcbogaaGreatDoorAbsU
import Derived.Test.YtokjbpmjdcbogaaGreatDoorGwD
import Derived.Lib.ItoaLen
namespace Go.Proofs.YtokjbpmjdcbogaaGreatDoor.Abs
open Go Go.RowKit
set_option linter.unusedVariables false
set_option linter.unusedSimpArgs false
theorem zeh {X O : Type} {body : X → Option (Sum X O)} {x y : X} (h : body x = some (.inl y)) : iter body x = iter body y := by rw [zbl, h]; rfl
theorem z6r {X O : Type} {body : X → Option (Sum X O)} {x : X} {r : O} (h : body x = some (.inr r)) : iter body x = some r := by rw [zbl, h]; rfl
theorem z7u {α : Type} {B : Nat} {L M : List α} (h : (L.length + M.length) * B ≤ 140737488355328) : app B L M = some (L ++ M) := by unfold app; rw [if_pos h]
theorem zfg {α : Type} {l : List α} {i : Nat} (h : i < l.length) : idx l (i : Int) = some l[i] := by
 unfold idx; rw [if_pos (by omega)]; simp [h]
/-! ### Bytes -/
theorem z5r (s : ByteArray) : s.data.toList.length = s.size := by rw [Array.length_toList]; rfl
theorem z03l (s : ByteArray) (i : Nat) (h : i < s.data.toList.length) : bt s (i : Int) = ((s.data.toList[i]).toNat : Int) := by
 have h' : i < s.size := by rw [← z5r]; exact h
 have := zu6 s (i : Int) (by simpa using h')
 rw [← this]; simp; rfl
theorem ext_list (s : ByteArray) (a b : Nat) : (s.extract a b).data.toList = (s.data.toList.take b).drop a := by simp [List.drop_take]
theorem zql (s : ByteArray) (a : Nat) : (s.extract a s.size).data.toList = s.data.toList.drop a := by
 rw [ext_list, List.take_of_length_le (by rw [z5r]; omega)]
theorem zgy {s t : ByteArray} (h : s.data.toList = t.data.toList) : s = t := ByteArray.ext (Array.toList_inj.mp h)

/-! ### What lexing is -/
abbrev Bs := List UInt8
def isL (b : UInt8) : Bool := decide (97 ≤ b.toNat) && decide (b.toNat ≤ 122)
def isD (b : UInt8) : Bool := decide (48 ≤ b.toNat) && decide (b.toNat ≤ 57)
def isA (b : UInt8) : Bool := isL b || isD b
def isB (b : UInt8) : Bool := b == 32 || b == 10
def runL (l : Bs) : Nat := (l.takeWhile isA).length
def resv : List Bs := [[99, 104, 97, 110], [98, 108, 111, 99, 107], [100, 114, 111, 112], [108, 111, 115, 115, 121], [102, 114, 111, 109], [116, 111], [114, 117, 108, 101], [112, 114, 111, 99], [118, 97, 114], [105, 102], [101, 108, 115, 101], [119, 104, 105, 108, 101], [115, 101, 110, 100], [114, 101, 99, 118], [97, 115, 115, 101, 114, 116], [105, 110, 112, 117, 116]]
def dval (l : Bs) : Nat := l.foldl (fun a b => 10 * a + (b.toNat - 48)) 0
def zos (t : Bs) : Bool := decide (t.length ≤ 10) && !(decide (1 < t.length) && t.head? == some 48) && t.all isD && decide (dval t ≤ 2147483647)
def ones : Bs := [123, 125, 40, 41, 59, 44, 46, 61, 60, 62, 43, 45, 42, 47, 37]
def twos : Bs := [61, 33, 60, 62]
def zdb (l : Bs) : Nat :=
 if l[1]? = some 61 ∧ l.head? ∈ twos.map some then 2 else if l.head? ∈ ones.map some then 1 else 0
structure W where
 kind : Int
 len : Nat
 num : Nat
/-- The word that a text begins with, or the error. -/
def zdr (l : Bs) : Except Int W :=
 match l with
 | [] => .error 2
 | b :: _ =>
  if isL b then (if 12 < runL l then .error 3 else .ok ⟨if l.take (runL l) ∈ resv then 4 else 1, runL l, 0⟩)
  else if isD b then (if zos (l.take (runL l)) then .ok ⟨2, runL l, dval (l.take (runL l))⟩ else .error 3)
  else if zdb l = 0 then .error 2 else .ok ⟨3, zdb l, 0⟩
theorem zbi (b : UInt8) (r : Bs) : zdr (b :: r) =
  if isL b then (if 12 < runL (b :: r) then .error 3 else .ok ⟨if (b :: r).take (runL (b :: r)) ∈ resv then 4 else 1, runL (b :: r), 0⟩)
  else if isD b then (if zos ((b :: r).take (runL (b :: r))) then .ok ⟨2, runL (b :: r), dval ((b :: r).take (runL (b :: r)))⟩ else .error 3)
  else if zdb (b :: r) = 0 then .error 2 else .ok ⟨3, zdb (b :: r), 0⟩ := rfl
structure Tok where
 kind : Int
 text : Bs
 num : Nat
 at_ : Nat
/-- All words from a place on, and the error with its place. -/
def lexS (l : Bs) (p : Nat) : List Tok × Option (Nat × Int) :=
 match l with
 | [] => ([], none)
 | b :: r =>
  if isB b then lexS r (p + 1)
  else match zdr (b :: r) with
   | .error e => ([], some (p, e))
   | .ok w => let z := lexS (r.drop (w.len - 1)) (p + w.len); (⟨w.kind, (b :: r).take w.len, w.num, p⟩ :: z.1, z.2)
termination_by l.length
decreasing_by all_goals (simp; try omega)
/-- What is told. -/
def told (size : Nat) (z : List Tok × Option (Nat × Int)) : List Tok × Int × Int :=
 match z.2 with
 | some (p, e) => ([], (p : Int), e)
 | none => if 2000 < z.1.length then ([], (size : Int), 4) else (z.1, 0, 0)

/-! ### Facts -/
theorem zp2 (l : Bs) : runL l ≤ l.length := by
 unfold runL; have := List.takeWhile_prefix (p := isA) (l := l); exact this.length_le
theorem zcu (b : UInt8) (l : Bs) : runL (b :: l) = if isA b then runL l + 1 else 0 := by
 unfold runL; rw [List.takeWhile_cons]; split <;> simp
theorem zlk {b : UInt8} {l : Bs} (h : isA b = true) : 0 < runL (b :: l) := by rw [zcu, if_pos h]; omega
theorem zqm (l : Bs) : zdb l ≤ l.length := by
 unfold zdb
 split
 ·rename_i h; have := (List.getElem?_eq_some_iff.mp h.1).1; omega
 ·split
  ·rename_i h; cases l with
   | nil => simp at h
   | cons a t => simp
  ·omega
theorem zje {l : Bs} {w : W} (h : zdr l = .ok w) : 0 < w.len ∧ w.len ≤ l.length := by
 cases l with
 | nil => simp [zdr] at h
 | cons b r =>
  simp only [zdr] at h
  split at h
  ·rename_i hb; split at h
   ·cases h
   ·cases h; exact ⟨zlk (by simp [isA, hb]), zp2 _⟩
  ·split at h
   ·rename_i hb; split at h
    ·cases h; exact ⟨zlk (by simp [isA, hb]), zp2 _⟩
    ·cases h
   ·split at h
    ·cases h
    ·rename_i hz; cases h; exact ⟨by simp; omega, zqm _⟩
theorem zq4 (p : Nat) : lexS [] p = ([], none) := by rw [lexS]
theorem zkj {b : UInt8} (r : Bs) (p : Nat) (h : isB b = true) : lexS (b :: r) p = lexS r (p + 1) := by rw [lexS, if_pos h]
theorem zsf {b : UInt8} {r : Bs} {p : Nat} {e : Int} (h : isB b = false) (hw : zdr (b :: r) = .error e) : lexS (b :: r) p = ([], some (p, e)) := by
 rw [lexS, if_neg (by simp [h]), hw]
theorem zun {b : UInt8} {r : Bs} {p : Nat} {w : W} (h : isB b = false) (hw : zdr (b :: r) = .ok w) :
  lexS (b :: r) p = (⟨w.kind, (b :: r).take w.len, w.num, p⟩ :: (lexS ((b :: r).drop w.len) (p + w.len)).1, (lexS ((b :: r).drop w.len) (p + w.len)).2) := by
 rw [lexS, if_neg (by simp [h]), hw]
 have := (zje hw).1
 have e : (b :: r).drop w.len = r.drop (w.len - 1) := by
  obtain ⟨n, hn⟩ : ∃ n, w.len = n + 1 := ⟨w.len - 1, by omega⟩
  rw [hn]; simp
 rw [e]

/-! ### Numbers -/
def zh2 (a : Nat) (b : UInt8) : Nat := 10 * a + (b.toNat - 48)
theorem zqn (l : Bs) : ∀ a, a * 10 ^ l.length ≤ l.foldl zh2 a := by
 induction l with
 | nil => intro a; simp
 | cons b r ih =>
  intro a
  have h := ih (zh2 a b)
  simp only [List.foldl_cons, List.length_cons]
  refine Nat.le_trans ?_ h
  rw [Nat.pow_succ, Nat.mul_comm (10 ^ r.length) 10, ← Nat.mul_assoc]
  exact Nat.mul_le_mul_right _ (by unfold zh2; omega)
theorem zv9 (l : Bs) : dval l = l.foldl zh2 0 := rfl
theorem zf0 (s : ByteArray) (i : Nat) (h : i < s.data.toList.length) : bidx s (i : Int) = some ((s.data.toList[i]).toNat : Int) := by
 have h' : i < s.size := by rw [← z5r]; exact h
 unfold bidx
 rw [if_pos (by omega), Int.toNat_natCast, getElem?_pos s i h']
 rfl
theorem zva {s : ByteArray} {a b : Nat} (h1 : a ≤ b) (h2 : b ≤ s.size) : ssub s (a : Int) (b : Int) = some (s.extract a b) := by
 unfold ssub; rw [if_pos ⟨by omega, by omega, by omega⟩]; simp
end Go.Proofs.YtokjbpmjdcbogaaGreatDoor.Abs
/- lex.Lex, as it is printed, comes to what lexing is, of all texts of at most 4,194,304 bytes. -/
namespace Go.Proofs.YtokjbpmjdcbogaaGreatDoor.Abs
open Go Go.RowKit
set_option linter.unusedVariables false
set_option linter.unusedSimpArgs false
theorem zll (b : UInt8) : zbe (b.toNat : Int) = some (isL b) := by
 unfold zbe isL
 by_cases h : 97 ≤ b.toNat
 ·rw [if_pos (by simp; omega)]; simp only [h, decide_true, Bool.true_and]; exact congrArg some (decide_eq_decide.mpr (by omega))
 ·rw [if_neg (by simp; omega)]; simp only [h, decide_false, Bool.false_and]
theorem zp3 (b : UInt8) : zch (b.toNat : Int) = some (isD b) := by
 unfold zch isD
 by_cases h : 48 ≤ b.toNat
 ·rw [if_pos (by simp; omega)]; simp only [h, decide_true, Bool.true_and]; exact congrArg some (decide_eq_decide.mpr (by omega))
 ·rw [if_neg (by simp; omega)]; simp only [h, decide_false, Bool.false_and]
theorem z03m (p : ByteArray) (hp : p.size ≤ 4194304) : ∀ (d i : Nat), p.size - i = d → i ≤ p.size →
  iter (zaa p) (i : Int) = some (.inr ((i + runL (p.data.toList.drop i) : Nat) : Int)) := by
 intro d
 induction d with
 | zero =>
  intro i hd hi
  have : i = p.size := by omega
  refine z6r ?_
  unfold zaa
  rw [if_neg (by simp; omega), List.drop_of_length_le (by rw [z5r]; omega)]
  simp [runL]
 | succ d ih =>
  intro i hd hi
  have hl : i < p.data.toList.length := by rw [z5r]; omega
  have e := List.drop_eq_getElem_cons hl
  have hb := zf0 p i hl
  generalize p.data.toList[i] = b at e hb
  have hw : IntKind.i64.wrap ((i : Int) + 1) = ((i + 1 : Nat) : Int) := by rw [w64 (by omega) (by omega)]; omega
  have IH := ih (i + 1) (by omega) (by omega)
  have hs : (decide ((i : Int) < (p.size : Int))) = true := by simp; omega
  rw [e, zcu]
  by_cases hA : isA b = true
  ·rw [if_pos hA]
   rw [zeh (y := ((i + 1 : Nat) : Int)) ?_, IH]
   ·congr 2; omega
   ·unfold zaa
    rw [if_pos hs, hb]
    simp only [Option.bind_eq_bind, Option.bind_some, zll, zp3, hw]
    unfold isA at hA
    cases hL : isL b
    ·rw [hL] at hA; simp only [Bool.false_or] at hA; simp [hA]
    ·simp
  ·rw [if_neg hA]
   refine z6r ?_
   unfold zaa
   rw [if_pos hs, hb]
   simp only [Option.bind_eq_bind, Option.bind_some, zll, zp3]
   unfold isA at hA
   simp only [Bool.or_eq_true, not_or, Bool.not_eq_true] at hA
   simp [hA.1, hA.2]
theorem z04x (p : ByteArray) (hp : p.size ≤ 4194304) : zhh p = some ((runL p.data.toList : Nat) : Int) := by
 have := z03m p hp p.size 0 (by omega) (by omega)
 unfold zhh
 rw [show ((0 : Int)) = ((0 : Nat) : Int) from rfl, this]
 simp
theorem zsg (s : ByteArray) : zaq s = some (decide (s.data.toList ∈ resv)) := by
 unfold zaq
 simp only [Go.ByteArray.toList_eq]
 generalize s.data.toList = l
 by_cases hm : l ∈ resv
 ·have hm2 := hm
  unfold resv at hm2
  simp only [List.mem_cons, List.not_mem_nil, or_false] at hm2
  rcases hm2 with rfl | rfl | rfl | rfl | rfl | rfl | rfl | rfl | rfl | rfl | rfl | rfl | rfl | rfl | rfl | rfl
  all_goals rfl
 ·have hm2 := hm
  unfold resv at hm2
  simp only [List.mem_cons, List.not_mem_nil, or_false, not_or] at hm2
  obtain ⟨h0, h1, h2, h3, h4, h5, h6, h7, h8, h9, h10, h11, h12, h13, h14, h15⟩ := hm2
  simp only [hm, decide_false, beq_iff_eq, h0, h1, h2, h3, h4, h5, h6, h7, h8, h9, h10, h11, h12, h13, h14, h15, if_false]
theorem z00x (s : ByteArray) (hp : s.size ≤ 12) : zci s = some (⟨if s.data.toList ∈ resv then 4 else 1, s, 0, 0⟩, 0) := by
 unfold zci
 rw [if_neg (by simp; omega), zsg]
 by_cases hm : s.data.toList ∈ resv <;> simp [hm]
theorem z03n (l : Bs) (c : UInt8) : (0 ≤ Lib.indexByte l c) ↔ c ∈ l := by
 induction l with
 | nil => simp [Lib.indexByte]
 | cons b r ih =>
  simp only [Lib.indexByte]
  have hge := Lib.indexByte_ge r c
  by_cases hb : (b == c) = true
  ·simp [(beq_iff_eq.mp hb).symm]
  ·have hb' : ¬ b = c := by simpa using hb
   simp only [hb, Bool.false_eq_true, if_false]
   by_cases hr : (Lib.indexByte r c == -1) = true
   ·simp only [hr, if_true]
    have : ¬ (0 ≤ Lib.indexByte r c) := by have := beq_iff_eq.mp hr; omega
    have : ¬ c ∈ r := fun h => this (ih.mpr h)
    simp [this, Ne.symm hb']
   ·simp only [hr, Bool.false_eq_true, if_false]
    have : ¬ Lib.indexByte r c = -1 := by simpa using hr
    have h2 : c ∈ r := ih.mp (by omega)
    simp [h2]; omega
theorem z04y (b : UInt8) : ((b.toNat : Int)).toNat.toUInt8 = b := by simp

theorem zvb (l : Bs) (c : UInt8) : ∃ z, zoe ⟨l.toArray⟩ (c.toNat : Int) = some z ∧ (decide (z ≥ 0) = decide (c ∈ l)) := by
 refine ⟨_, rfl, ?_⟩
 rw [z04y]
 exact decide_eq_decide.mpr (z03n l c)
theorem z03o (p : ByteArray) (h0 : 0 < p.size) : zgn p = some ((zdb p.data.toList : Nat) : Int) := by
 have hl0 : 0 < p.data.toList.length := by rw [z5r]; omega
 have hb0 := zf0 p 0 hl0
 have e0 : p.data.toList.head? = some (p.data.toList[0]) := by rw [List.head?_eq_getElem?]; exact List.getElem?_eq_getElem hl0
 generalize p.data.toList[0] = a at e0 hb0
 obtain ⟨z1, hz1, hd1⟩ := zvb ones a
 obtain ⟨z2, hz2, hd2⟩ := zvb twos a
 have ho : (p.data.toList.head? ∈ ones.map some) ↔ a ∈ ones := by rw [e0]; simp
 have ht : (p.data.toList.head? ∈ twos.map some) ↔ a ∈ twos := by rw [e0]; simp
 have hS : zdb p.data.toList = if (p.data.toList[1]? = some 61 ∧ a ∈ twos) then 2 else if a ∈ ones then 1 else 0 := by
  unfold zdb; simp only [ht, ho]
 rw [hS]
 unfold zgn
 have hz1 : zoe (ByteArray.mk #[123, 125, 40, 41, 59, 44, 46, 61, 60, 62, 43, 45, 42, 47, 37]) (a.toNat : Int) = some z1 := hz1
 have hz2 : zoe (ByteArray.mk #[61, 33, 60, 62]) (a.toNat : Int) = some z2 := hz2
 have hb0 : bidx p 0 = some (a.toNat : Int) := hb0
 simp only [hb0, Option.bind_eq_bind, Option.bind_some, hz1, hz2, hd1, hd2]
 by_cases h1 : 1 < p.size
 ·have hl1 : 1 < p.data.toList.length := by rw [z5r]; omega
  have hb1 := zf0 p 1 hl1
  have e1 : p.data.toList[1]? = some (p.data.toList[1]) := List.getElem?_eq_getElem hl1
  generalize p.data.toList[1] = c at e1 hb1
  have hb1 : bidx p 1 = some (c.toNat : Int) := hb1
  have hc61 : ((c.toNat : Int) == 61) = decide (c = 61) := by
   by_cases hc : c = 61
   ·subst hc; rfl
   ·have : ¬ ((c.toNat : Int) = 61) := by intro h; apply hc; apply UInt8.toNat_inj.mp; have : (61 : UInt8).toNat = 61 := rfl; omega
    simp [hc, this]
  have hgt : (decide ((p.size : Int) > 1)) = true := by simp; omega
  rw [e1]
  simp only [hgt, if_true, hb1, Option.bind_some, hc61]
  by_cases hc : c = 61 <;> by_cases hm : a ∈ twos <;> by_cases hn : a ∈ ones <;> simp [hc, hm, hn]
 ·have e1 : p.data.toList[1]? = none := List.getElem?_eq_none (by rw [z5r]; omega)
  have hgt : (decide ((p.size : Int) > 1)) = false := by simp; omega
  rw [e1]
  simp only [hgt]
  by_cases hn : a ∈ ones <;> simp [hn]
/-! ### lex.number -/
theorem zxh (b : UInt8) : digs.contains b = isD b := by
 rw [Bool.eq_iff_iff]
 constructor
 ·intro h
  have h : b ∈ digs := by simpa using h
  unfold digs at h
  simp only [List.mem_cons, List.not_mem_nil, or_false] at h
  rcases h with rfl | rfl | rfl | rfl | rfl | rfl | rfl | rfl | rfl | rfl <;> rfl
 ·intro h
  simp only [isD, Bool.and_eq_true, decide_eq_true_eq] at h
  have h2 : b.toNat = 48 ∨ b.toNat = 49 ∨ b.toNat = 50 ∨ b.toNat = 51 ∨ b.toNat = 52 ∨ b.toNat = 53 ∨ b.toNat = 54 ∨ b.toNat = 55 ∨ b.toNat = 56 ∨ b.toNat = 57 := by omega
  have e : ∀ n, b.toNat = n → b = UInt8.ofNat n := fun n h => by rw [← h]; simp
  rcases h2 with h | h | h | h | h | h | h | h | h | h <;> (rw [e _ h]; rfl)
theorem zvc {p : UInt8 → Bool} {l : Bs} : l.dropWhile p = [] ↔ ∀ x ∈ l, p x = true := by
 induction l with
 | nil => simp
 | cons b r ih =>
  rw [List.dropWhile_cons]
  by_cases h : p b = true
  ·rw [if_pos h, ih]; simp [h]
  ·rw [if_neg h]; simp [h]
theorem zqo (l : Bs) : (Lib.trimS l digs = []) ↔ (l.all isD = true) := by
 have hp : (fun b => digs.contains b) = isD := funext zxh
 unfold Lib.trimS Lib.trimLeftS Lib.trimRightS
 rw [show (digs.contains ·) = isD from hp]
 constructor
 ·intro h
  rw [zvc] at h
  have h2 : List.dropWhile isD l.reverse = [] := by
   cases hm : List.dropWhile isD l.reverse with
   | nil => rfl
   | cons x m =>
    have h3 := List.head_dropWhile_not isD (l := l.reverse) (by rw [hm]; simp)
    have h4 := h x (by rw [List.mem_reverse, hm]; simp)
    simp only [hm, List.head_cons] at h3
    rw [h4] at h3; cases h3
  rw [zvc] at h2
  exact List.all_eq_true.mpr fun x hx => h2 x (by simpa using hx)
 ·intro h
  have h1 : List.dropWhile isD l.reverse = [] := zvc.mpr fun x hx => List.all_eq_true.mp h x (by simpa using hx)
  rw [h1]; rfl
theorem z03p (l : Bs) (h : ∀ b ∈ l, isD b = true) : ∀ acc, acc ≤ 4294967295 →
  Lib.parseUintM 4294967295 acc l = if l.foldl zh2 acc ≤ 4294967295 then .ok (l.foldl zh2 acc) else .range := by
 induction l with
 | nil => intro acc ha; simp [Lib.parseUintM, ha]
 | cons c r ih =>
  intro acc ha
  have hc := h c List.mem_cons_self
  simp only [isD, Bool.and_eq_true, decide_eq_true_eq] at hc
  have hr := ih (fun x hx => h x (List.mem_cons_of_mem _ hx))
  rw [List.foldl_cons]
  simp only [Lib.parseUintM]
  rw [if_pos hc, if_neg (by omega)]
  have es : acc * 10 + (c.toNat - 48) = zh2 acc c := by unfold zh2; omega
  rw [es]
  by_cases hM : 4294967295 < zh2 acc c
  ·rw [if_pos hM, if_neg]
   have := zqn r (zh2 acc c)
   have hp : 1 ≤ 10 ^ r.length := Nat.one_le_pow _ _ (by omega)
   have := Nat.mul_le_mul_left (zh2 acc c) hp
   omega
  ·rw [if_neg hM, hr _ (by omega)]
theorem zvd (c : UInt8) (r : Bs) (h : ∀ b ∈ c :: r, isD b = true) :
  Lib.parseIntB 32 (c :: r) = if dval (c :: r) ≤ 2147483647 then .ok ((dval (c :: r) : Nat) : Int) else .range := by
 have hc := h c List.mem_cons_self
 simp only [isD, Bool.and_eq_true, decide_eq_true_eq] at hc
 have hp := z03p (c :: r) h 0 (by omega)
 simp only [Lib.parseIntB]
 rw [if_neg (by omega)]
 unfold Lib.parseUintB
 rw [if_neg (by simp)]
 rw [show (2 ^ 32 - 1 : Nat) = 4294967295 from rfl, hp, ← zv9]
 generalize dval (c :: r) = v
 have h45 : ¬ (c.toNat = 45) := by omega
 by_cases h1 : v ≤ 4294967295
 ·rw [if_pos h1]
  by_cases h2 : v ≤ 2147483647
  ·rw [if_pos h2]; dsimp only; rw [if_neg (by rintro ⟨_, h⟩; omega), if_neg (by rintro ⟨h, _⟩; exact h45 h), if_neg h45]
  ·rw [if_neg h2]; dsimp only; rw [if_pos ⟨h45, by omega⟩]
 ·rw [if_neg h1, if_neg (by omega)]
theorem zq2 (c : UInt8) (r : Bs) (hc : isD c = true) (h48 : c ≠ 48) (hv : dval (c :: r) ≤ 2147483647) : (c :: r).length ≤ 10 := by
 simp only [isD, Bool.and_eq_true, decide_eq_true_eq] at hc
 have h1 : c.toNat ≠ 48 := fun h => h48 (UInt8.toNat_inj.mp (by rw [h]; rfl))
 rw [zv9, List.foldl_cons] at hv
 have hg := zqn r (zh2 0 c)
 have hs : 1 ≤ zh2 0 c := by unfold zh2; omega
 have h2 : 10 ^ r.length ≤ 2147483647 := by
  have := Nat.mul_le_mul_right (10 ^ r.length) hs
  omega
 have h3 : r.length < 10 := by
  refine Decidable.byContradiction fun hn => ?_
  have : 10 ^ 10 ≤ 10 ^ r.length := Nat.pow_le_pow_right (by omega) (by omega)
  have : (10 : Nat) ^ 10 = 10000000000 := by decide
  omega
 simp; omega
theorem zxi (s : ByteArray) (c : UInt8) (r : Bs) (e : s.data.toList = c :: r) (hc : isD c = true) (hs : s.size ≤ 4194304) :
  zj9 s = if zos (c :: r) then some (((dval (c :: r) : Nat) : Int), 0) else some (0, 3) := by
 have hsz : s.size = (c :: r).length := by rw [← e, z5r]
 have hb := z03l s 0 (by rw [e]; simp)
 have hb : bt s 0 = (c.toNat : Int) := by simpa [e] using hb
 have h48 : (bt s 0 = 48) ↔ c = 48 := by
  rw [hb]; constructor
  ·intro h; exact UInt8.toNat_inj.mp (by have : (48 : UInt8).toNat = 48 := rfl; omega)
  ·rintro rfl; rfl
 unfold zj9 zos
 rw [if_pos (by omega), e, hsz]
 have hh : ((c :: r).head? == some 48) = decide (c = 48) := by
  by_cases h : c = 48
  ·subst h; rfl
  ·simp [h]
 rw [hh]
 by_cases hall : (c :: r).all isD = true
 ·have ht := (zqo (c :: r)).mpr hall
  by_cases h1 : 1 < (c :: r).length ∧ c = 48
  ·rw [if_pos (.inr ⟨h1.1, h48.mpr h1.2⟩)]
   rw [if_neg]
   simp only [Bool.and_eq_true, decide_eq_true_eq, Bool.not_eq_true', Bool.and_eq_false_iff, decide_eq_false_iff_not]
   rintro ⟨⟨⟨_, h | h⟩, _⟩, _⟩
   ·exact h h1.1
   ·exact h h1.2
  ·rw [if_neg (by rintro (h | ⟨h, h'⟩); exact h ht; exact h1 ⟨h, h48.mp h'⟩), zvd c r (fun b hb => List.all_eq_true.mp hall b hb)]
   by_cases hv : dval (c :: r) ≤ 2147483647
   ·have hl : (c :: r).length ≤ 10 := by
     by_cases hz : c = 48
     ·have : ¬ 1 < (c :: r).length := fun h => h1 ⟨h, hz⟩
      omega
     ·exact zq2 c r hc hz hv
    rw [if_pos hv, if_pos]
    simp only [Bool.and_eq_true, hall, decide_eq_true_eq, hv, hl, and_true, true_and, Bool.not_eq_true', Bool.and_eq_false_iff, decide_eq_false_iff_not]
    by_cases hz : c = 48
    ·left; exact fun h => h1 ⟨h, hz⟩
    ·right; exact hz
   ·rw [if_neg hv, if_neg]
    simp only [Bool.and_eq_true, decide_eq_true_eq, hv, and_false, not_false_eq_true]
 ·rw [if_pos (.inl fun h => hall ((zqo _).mp h)), if_neg]
  intro h
  simp only [Bool.and_eq_true] at h
  exact hall h.1.2

/-! ### lex.word, lex.Lex -/
theorem z03q (p : ByteArray) (b : UInt8) (r : Bs) (e : p.data.toList = b :: r) (hp : p.size ≤ 4194304) :
  match zdr (b :: r) with
  | .ok w => zd3 p = some (⟨w.kind, p.extract 0 w.len, (w.num : Int), 0⟩, 0)
  | .error c => ∃ x, c ≠ 0 ∧ zd3 p = some (x, c) := by
 have hsz : p.size = (b :: r).length := by rw [← e, z5r]
 have h0 : 0 < p.size := by rw [hsz]; simp
 have hb : bidx p 0 = some (b.toNat : Int) := by
  have := zf0 p 0 (by rw [e]; simp)
  simpa [e] using this
 have hrun := z04x p hp
 rw [e] at hrun
 have hrl := zp2 (b :: r)
 have hxl : (p.extract 0 (runL (b :: r))).data.toList = (b :: r).take (runL (b :: r)) := by rw [ext_list, e]; simp
 have hxs : (p.extract 0 (runL (b :: r))).size = runL (b :: r) := by rw [← z5r, hxl, List.length_take]; omega
 have hcut : ∀ n : Nat, n ≤ p.size → ssub p 0 (n : Int) = some (p.extract 0 n) := fun n hn => zva (Nat.zero_le _) hn
 unfold zd3
 simp only [hb, Option.bind_eq_bind, Option.bind_some, zll, zp3]
 rw [zbi]
 by_cases hL : isL b = true
 ·rw [if_pos hL, if_pos hL, hrun]
  simp only [Option.bind_some, hcut _ (by omega : runL (b :: r) ≤ p.size)]
  by_cases h12 : 12 < runL (b :: r)
  ·rw [if_pos h12]
   refine ⟨⟨0, ByteArray.mk #[], 0, 0⟩, by decide, ?_⟩
   unfold zci
   rw [if_pos (by simp [hxs]; omega)]; rfl
  ·rw [if_neg h12, z00x _ (by omega), hxl]; rfl
 ·rw [if_neg hL, if_neg hL]
  by_cases hD : isD b = true
  ·have hxe : (p.extract 0 (runL (b :: r))).data.toList = b :: r.take (runL (b :: r) - 1) := by
    rw [hxl]
    have := zlk (b := b) (l := r) (by simp [isA, hD])
    obtain ⟨n, hn⟩ : ∃ n, runL (b :: r) = n + 1 := ⟨runL (b :: r) - 1, by omega⟩
    rw [hn]; simp
   have hnum := zxi (p.extract 0 (runL (b :: r))) b _ hxe hD (by omega)
   rw [← hxe, hxl] at hnum
   rw [if_pos hD, if_pos hD, hrun]
   simp only [Option.bind_some, hcut _ (by omega : runL (b :: r) ≤ p.size), hnum]
   by_cases ho : zos ((b :: r).take (runL (b :: r))) = true
   ·rw [if_pos ho, if_pos ho]; rfl
   ·rw [if_neg ho, if_neg ho]; exact ⟨_, by decide, rfl⟩
  ·rw [if_neg hD, if_neg hD, z03o p h0, e]
   have hsl := zqm (b :: r)
   simp only [Option.bind_some]
   by_cases hz : zdb (b :: r) = 0
   ·rw [if_pos hz, if_pos (by simp [hz])]
    exact ⟨_, by decide, rfl⟩
   ·rw [if_neg hz, if_neg (by simpa using hz), hcut _ (by omega)]; rfl
def tokT (t : Tok) : z0e := ⟨t.kind, ⟨t.text.toArray⟩, (t.num : Int), (t.at_ : Int)⟩
def finT (size : Nat) (z : List Tok × Option (Nat × Int)) : List z0e × Int × Int :=
 ((told size z).1.map tokT, (told size z).2.1, (told size z).2.2)
theorem zxj (size : Nat) (acc : List Tok) (p : Nat) (e : Int) : finT size (acc, some (p, e)) = ([], (p : Int), e) := rfl
theorem z03r (s : ByteArray) (hs : s.size ≤ 4194304) : ∀ (d i : Nat) (acc : List Tok), s.size - i = d → i ≤ s.size → acc.length ≤ i →
  (iter (zab s) ((i : Int), acc.map tokT) >>= Sum.elim (fun r => some r) (fun j1 => if (decide ((j1.length : Int) > 2000)) then (some ([], (s.size : Int), 4)) else (some (j1, 0, 0)))) = some (finT s.size (acc ++ (lexS (s.data.toList.drop i) i).1, (lexS (s.data.toList.drop i) i).2)) := by
 intro d
 induction d using Nat.strongRecOn with
 | _ d ih =>
 intro i acc hd hi ha
 by_cases hlt : i < s.size
 ·have hl : i < s.data.toList.length := by rw [z5r]; omega
  have e := List.drop_eq_getElem_cons hl
  have hb := zf0 s i hl
  generalize s.data.toList[i] = b at e hb
  have hw : IntKind.i64.wrap ((i : Int) + 1) = ((i + 1 : Nat) : Int) := by rw [w64 (by omega) (by omega)]; omega
  have hs1 : (decide ((i : Int) < (s.size : Int))) = true := by simp; omega
  have h32 : ((b.toNat : Int) == 32) = (b == 32) := by
   rw [Bool.eq_iff_iff, beq_iff_eq, beq_iff_eq]
   constructor
   ·intro h; exact UInt8.toNat_inj.mp (by have : (32 : UInt8).toNat = 32 := rfl; omega)
   ·rintro rfl; rfl
  have h10 : ((b.toNat : Int) == 10) = (b == 10) := by
   rw [Bool.eq_iff_iff, beq_iff_eq, beq_iff_eq]
   constructor
   ·intro h; exact UInt8.toNat_inj.mp (by have : (10 : UInt8).toNat = 10 := rfl; omega)
   ·rintro rfl; rfl
  have hJ : (if (b == 32) = true then some true else some (b == 10)) = some (isB b) := by
   unfold isB; cases (b == 32) <;> simp
  have hbody : zab s ((i : Int), acc.map tokT) = (if isB b then some (.inl (((i + 1 : Nat) : Int), acc.map tokT)) else
    (ssub s (i : Int) (s.size : Int) >>= fun v3 => zd3 v3 >>= fun v4 => if (v4.2 != 0) then (some (.inr (.inl ([], (i : Int), v4.2))))
     else (app 40 (acc.map tokT) [(z0e.mk v4.1.Kind v4.1.Text v4.1.Num (i : Int))] >>= fun v5 => some (.inl ((IntKind.i64.wrap ((i : Int) + (v4.1.Text.size : Int))), v5))))) := by
   unfold zab
   rw [if_pos hs1]
   simp only [hb, Option.bind_eq_bind, Option.bind_some, h32, h10, hw, hJ]
  rw [e]
  by_cases hB : isB b = true
  ·rw [zkj _ _ hB, zeh (y := (((i + 1 : Nat) : Int), acc.map tokT)) (by rw [hbody, if_pos hB])]
   exact ih (s.size - (i + 1)) (by omega) (i + 1) acc rfl (by omega) (by omega)
  ·have hB' : isB b = false := by simpa using hB
   rw [if_neg hB, zva (by omega) (Nat.le_refl _)] at hbody
   simp only [Option.bind_eq_bind, Option.bind_some] at hbody
   have hpl : (s.extract i s.size).data.toList = b :: s.data.toList.drop (i + 1) := by rw [zql, e]
   have hps : (s.extract i s.size).size ≤ 4194304 := by rw [ByteArray.size_extract]; omega
   have hwd := z03q (s.extract i s.size) b _ hpl hps
   cases hw1 : zdr (b :: s.data.toList.drop (i + 1)) with
   | error c =>
    rw [hw1] at hwd
    obtain ⟨x, hc, hE⟩ := hwd
    rw [hE] at hbody
    simp only [Option.bind_some] at hbody
    rw [if_pos (by simpa using hc)] at hbody
    rw [z6r hbody, zsf hB' hw1, zxj]
    rfl
   | ok w =>
    rw [hw1] at hwd
    have hlen := zje hw1
    have hlen2 : w.len ≤ s.size - i := by
     have := hlen.2
     rw [← hpl, zql, List.length_drop, z5r] at this
     exact this
    have hx : (s.extract i s.size).extract 0 w.len = (⟨((b :: s.data.toList.drop (i + 1)).take w.len).toArray⟩ : ByteArray) := by
     refine zgy ?_
     rw [ext_list, hpl]; simp
    have hxs : ((⟨((b :: s.data.toList.drop (i + 1)).take w.len).toArray⟩ : ByteArray)).size = w.len := by
     rw [← z5r]; simp only [List.length_take]
     omega
    have hd2 : (b :: s.data.toList.drop (i + 1)).drop w.len = s.data.toList.drop (i + w.len) := by
     rw [← e, List.drop_drop]
    rw [hwd] at hbody
    simp only [Option.bind_some] at hbody
    rw [if_neg (by simp), z7u (by simp; omega)] at hbody
    simp only [Option.bind_some] at hbody
    rw [hx, hxs, w64 (by omega) (by omega)] at hbody
    have IH := ih (s.size - (i + w.len)) (by omega) (i + w.len) (acc ++ [(⟨w.kind, (b :: s.data.toList.drop (i + 1)).take w.len, w.num, i⟩ : Tok)]) rfl (by omega) (by simp; omega)
    rw [zeh hbody, zun hB' hw1, hd2]
    simp only [List.map_append, List.map_cons, List.map_nil, List.append_assoc, List.cons_append, List.nil_append] at IH
    rw [← show (((i + w.len : Nat) : Int)) = (i : Int) + (w.len : Int) by push_cast; rfl]
    exact IH
 ·have hie : i = s.size := by omega
  have hnil : s.data.toList.drop i = [] := List.drop_of_length_le (by rw [z5r]; omega)
  rw [hnil, zq4]
  rw [z6r (r := .inr (acc.map tokT)) (by unfold zab; rw [if_neg (by simp; omega)])]
  simp only [List.append_nil, finT, told, List.length_map, Option.bind_eq_bind, Option.bind_some, Sum.elim_inr]
  by_cases h2 : 2000 < acc.length
  ·rw [if_pos (by simp; omega), if_pos h2]; rfl
  ·rw [if_neg (by simp; omega), if_neg h2]
theorem z03j (s : ByteArray) (hs : s.size ≤ 4194304) : ze0 s = some (finT s.size (lexS s.data.toList 0)) := by
 have := z03r s hs s.size 0 [] (by omega) (by omega) (by simp)
 unfold ze0
 simpa using this
end Go.Proofs.YtokjbpmjdcbogaaGreatDoor.Abs
/- What the writer puts, in plain words: words, whether something can't be, whether it is too deep. -/
namespace Go.Proofs.YtokjbpmjdcbogaaGreatDoor.Abs.Wri
open Go Go.RowKit
set_option linter.unusedVariables false
set_option linter.unusedSimpArgs false
/-! ### With as much fuel as is enough -/
def Sn {α : Type} (n h : Nat) (x : Option α) (r : α) : Prop := x = some r ∨ (x = none ∧ n < h)
theorem Sn.pure {α : Type} {n h : Nat} {x : Option α} {r : α} (e : x = some r) : Sn n h x r := .inl e
theorem Sn.mono {α : Type} {n h h' : Nat} {x : Option α} {r : α} (s : Sn n h x r) (hh : h ≤ h') : Sn n h' x r := s.imp id fun ⟨a, b⟩ => ⟨a, by omega⟩
theorem Sn.bind {α β : Type} {n h : Nat} {x : Option α} {f : α → Option β} {r : α} {t : β} (s : Sn n h x r) (k : Sn n h (f r) t) : Sn n h (x >>= f) t := by
 rcases s with rfl | ⟨rfl, hn⟩
 ·exact k
 ·exact .inr ⟨rfl, hn⟩
theorem Sn.up {α : Type} {n h : Nat} {x : Option α} {r : α} (s : Sn n h x r) : Sn (n + 1) (h + 1) x r := s.imp id fun ⟨a, b⟩ => ⟨a, by omega⟩
theorem Sn.unf {α : Type} {f : Nat → Option α} {r : α} {h : Nat} (s : ∀ n, Sn n h (f n) r) : unf f = some r := by
 refine zxw h ?_ fun m t hm => ?_
 ·rcases s h with e | ⟨_, e⟩
  ·exact e
  ·omega
 ·rcases s m with e | ⟨e, _⟩
  ·rw [hm] at e; exact Option.some.inj e
  ·rw [hm] at e; cases e
/-! ### What is put -/
structure Wr where
 ws : List ByteArray
 bad : Bool
 dp : Bool
def Wr.app (x y : Wr) : Wr := ⟨x.ws ++ y.ws, x.bad || y.bad, x.dp || y.dp⟩
instance : Append Wr := ⟨Wr.app⟩
theorem Wr.app_def (x y : Wr) : x ++ y = ⟨x.ws ++ y.ws, x.bad || y.bad, x.dp || y.dp⟩ := rfl
@[simp] theorem Wr.ws_app (x y : Wr) : (x ++ y).ws = x.ws ++ y.ws := rfl
@[simp] theorem Wr.bad_app (x y : Wr) : (x ++ y).bad = (x.bad || y.bad) := rfl
@[simp] theorem Wr.dp_app (x y : Wr) : (x ++ y).dp = (x.dp || y.dp) := rfl
theorem Wr.assoc (x y z : Wr) : x ++ y ++ z = x ++ (y ++ z) := by simp [Wr.app_def, Bool.or_assoc]
def Wr.nil : Wr := ⟨[], false, false⟩
theorem Wr.app_nil (x : Wr) : x ++ Wr.nil = x := by simp [Wr.app_def, Wr.nil]
/-- Words. -/
def wW (l : List ByteArray) : Wr := ⟨l, false, false⟩
/-- What must be. -/
def wM (ok : Bool) : Wr := ⟨[], !ok, false⟩
/-- A depth. -/
def wD (q : Int) : Wr := ⟨[], false, decide (q > 24)⟩
def act (a : z01) (x : Wr) : z01 := ⟨a.f_out ++ x.ws, a.f_form || x.bad, a.f_deep || x.dp, a.f_blocks, a.f_parens⟩
theorem z25 (a : z01) (x y : Wr) : act (act a x) y = act a (x ++ y) := by simp [act, Wr.app_def, Bool.or_assoc]
@[simp] theorem zaj (a : z01) (x : Wr) : (act a x).f_blocks = a.f_blocks := rfl
@[simp] theorem z57 (a : z01) (x : Wr) : (act a x).f_parens = a.f_parens := rfl
theorem zlm (a : z01) (x : Wr) : (act a x).f_out = a.f_out ++ x.ws := rfl
/-- Is it one name? -/
def zi1 (s : ByteArray) : Bool :=
 let v := finT s.size (lexS s.data.toList 0)
 v.2.2 == 0 && (v.1.length : Int) == 1 && (match v.1 with | t :: _ => t.Kind == 1 && t.Text.toList == s.toList | [] => false)
def zl5 (n : Int) : Bool := decide (n ≥ 0) && decide (n ≤ 2147483647)
def wN (s : ByteArray) : Wr := ⟨[s], !zi1 s, false⟩
def wI (n : Int) : Wr := ⟨[zec n], !zl5 n, false⟩
/-- Room for so many more words. -/
def Room (a : z01) (n : Nat) : Prop := a.f_out.length + n ≤ 8796093022208
theorem Room.act {a : z01} {n : Nat} {x : Wr} (h : Room a n) {m : Nat} (hm : x.ws.length + m ≤ n) : Room (act a x) m := by
 unfold Room at *; rw [zlm, List.length_append]; omega
theorem Room.le {a : z01} {n m : Nat} (h : Room a n) (hm : m ≤ n) : Room a m := by unfold Room at *; omega
theorem z6s {a : z01} {l : List ByteArray} (h : Room a l.length) : z07 a l = some (act a (wW l)) := by
 unfold z07
 rw [z7u (by unfold Room at h; omega)]
 simp [act, wW]
theorem zi6 (a : z01) (ok : Bool) : z2m a ok = some (act a (wM ok)) := by
 unfold z2m act wM
 cases a with | mk o f d b p => cases f <;> simp
theorem zaz {a : z01} {s : ByteArray} (h : Room a 1) (hs : s.size ≤ 4194304) : z18 a s = some (act a (wN s)) := by
 unfold z18
 rw [z03j s hs]
 simp only [Option.bind_eq_bind, Option.bind_some, zi6]
 have hw : wM (zi1 s) ++ wW [s] = wN s := by simp [wM, wW, wN, Wr.app_def]
 have hput : ∀ x : Wr, x.ws = [] → z07 (act a x) [s] = some (act a (x ++ wW [s])) := fun x hx => by
  rw [z6s (Room.act h (by rw [hx]; simp)), z25]
 rw [← hw, ← hput _ rfl]
 unfold zi1
 generalize finT s.size (lexS s.data.toList 0) = v
 obtain ⟨l, p, e⟩ := v
 by_cases he : e = 0
 ·subst he
  match l with
  | [] => simp [act]
  | [t] =>
   have : idx [t] 0 = some t := rfl
   by_cases hk : t.Kind = 1
   ·simp [this, hk, act]
   ·have hk' : (t.Kind == 1) = false := by simpa using hk
    simp [this, hk, hk', act]
  | t :: t' :: r =>
   have : ¬ ((r.length : Int) + 1 + 1 = 1) := by omega
   have h2 : ((r.length : Int) + 1 + 1 == 1) = false := by simpa using this
   simp [this, h2, act]
 ·have he' : (e == 0) = false := by simpa using he
  simp [he', act]
theorem zh3 {a : z01} {n : Int} (h : Room a 1) (h0 : -9223372036854775808 ≤ n) (h1 : n ≤ 9223372036854775807) : z44 a n = some (act a (wI n)) := by
 unfold z44
 have hi : itoa n = some (zec n) := by unfold itoa; rw [if_pos ⟨h0, h1⟩]
 have hw : wM (zl5 n) ++ wW [zec n] = wI n := by simp [wM, wW, wI, Wr.app_def]
 have hput : ∀ x : Wr, x.ws = [] → z07 (act a x) [zec n] = some (act a (x ++ wW [zec n])) := fun x hx => by
  rw [z6s (Room.act h (by rw [hx]; simp)), z25]
 rw [← hw, ← hput _ rfl]
 simp only [Option.bind_eq_bind, Option.bind_some, zi6, hi]
 unfold zl5
 by_cases hn : n ≥ 0
 ·simp [hn, act]
 ·simp [hn, act]
/-! ### Expressions -/
mutual
def szE : z04 → Nat
 | ⟨_, _, _, l⟩ => 1 + szEs l
def szEs : List z04 → Nat
 | [] => 0
 | e :: r => szE e + szEs r
end
def sumK (k : Int) : Bool := k == 4 || k == 5
def z9v (k : Int) : Bool := decide (k ≥ 4) && decide (k ≤ 8)
theorem z04z (k : Int) : ze2 k = some (sumK k) := by unfold ze2 sumK; cases (k == 4) <;> simp
theorem znf (k : Int) : zd4 k = some (z9v k) := by unfold zd4 z9v; by_cases h : k ≥ 4 <;> simp [h]
def zg4 (k : Int) : ByteArray := match k with
 | 4 => ByteArray.mk #[43] | 5 => ByteArray.mk #[45] | 6 => ByteArray.mk #[42] | 7 => ByteArray.mk #[47] | _ => ByteArray.mk #[37]
theorem zxk {k : Int} (h : z9v k = true) : idx [(ByteArray.mk #[43]), (ByteArray.mk #[45]), (ByteArray.mk #[42]), (ByteArray.mk #[47]), (ByteArray.mk #[37])] (IntKind.i64.wrap (k - 4)) = some (zg4 k) := by
 unfold z9v at h
 simp only [Bool.and_eq_true, decide_eq_true_eq] at h
 have : k = 4 ∨ k = 5 ∨ k = 6 ∨ k = 7 ∨ k = 8 := by omega
 rcases this with rfl | rfl | rfl | rfl | rfl <;> rfl
def zed (e : z04) : Wr := wM ((e.Kids.length : Int) == 0) ++ (if e.Kind == 1 then wI e.Num else wM (e.Kind == 2) ++ wN e.Name)
/-- A kid, in ( and ), if it must. -/
def inP (must : Bool) (f : Int → Wr) (p : Int) : Wr := if must then wW [(ByteArray.mk #[40])] ++ (wD (p + 1) ++ (f (p + 1) ++ wW [(ByteArray.mk #[41])])) else f p
def sE (e : z04) (p : Int) : Wr :=
 match e with
 | ⟨k, n, s, [x]⟩ => if k == 3 then wW [(ByteArray.mk #[45])] ++ (wD (p + 1) ++ inP (z9v x.Kind) (sE x) (p + 1)) else zed ⟨k, n, s, [x]⟩
 | ⟨k, n, s, [l, r]⟩ => if z9v k then inP (!sumK k && sumK l.Kind) (sE l) p ++ (wW [zg4 k] ++ inP (sumK r.Kind || (!sumK k && z9v r.Kind)) (sE r) p) else zed ⟨k, n, s, [l, r]⟩
 | ⟨k, n, s, l⟩ => zed ⟨k, n, s, l⟩
theorem zln (m : Bool) (f : Int → Wr) (p : Int) (c : Nat) (h : ∀ q, (f q).ws.length ≤ c) : (inP m f p).ws.length ≤ c + 2 := by
 unfold inP
 split
 ·have := h (p + 1); simp [wW, wD]; omega
 ·have := h p; omega
theorem zh4 (e : z04) : (zed e).ws.length ≤ 1 := by
 unfold zed
 split <;> simp [wM, wI, wN]
theorem zel : ∀ (e : z04) (p : Int), (sE e p).ws.length ≤ 5 * szE e
 | ⟨k, n, s, []⟩, p => by
  have := zh4 ⟨k, n, s, []⟩
  simp only [sE, szE, szEs]; omega
 | ⟨k, n, s, [x]⟩, p => by
  have := zh4 ⟨k, n, s, [x]⟩
  simp only [sE, szE, szEs]
  split
  ·have := zln (z9v x.Kind) (sE x) (p + 1) (5 * szE x) (zel x)
   simp [wW, wD]; omega
  ·omega
 | ⟨k, n, s, [l, r]⟩, p => by
  have := zh4 ⟨k, n, s, [l, r]⟩
  simp only [sE, szE, szEs]
  split
  ·have := zln (!sumK k && sumK l.Kind) (sE l) p (5 * szE l) (zel l)
   have := zln (sumK r.Kind || (!sumK k && z9v r.Kind)) (sE r) p (5 * szE r) (zel r)
   simp [wW]; omega
  ·omega
 | ⟨k, n, s, a :: b :: c :: l⟩, p => by
  have := zh4 ⟨k, n, s, a :: b :: c :: l⟩
  simp only [sE, szE, szEs]; omega
/-- Numbers and names that a walk can read. -/
def in64 (n : Int) : Prop := -9223372036854775808 ≤ n ∧ n ≤ 9223372036854775807
mutual
def okE : z04 → Prop
 | ⟨_, n, s, l⟩ => in64 n ∧ s.size ≤ 4194304 ∧ okEs l
def okEs : List z04 → Prop
 | [] => True
 | e :: r => okE e ∧ okEs r
end
theorem w64p {p : Int} (h0 : 0 ≤ p) (h1 : p ≤ 4611686018427387904) : IntKind.i64.wrap (p + 1) = p + 1 := w64 (by omega) (by omega)
theorem w64m {p : Int} (h0 : 0 ≤ p) (h1 : p ≤ 4611686018427387904) : IntKind.i64.wrap (p + 1 - 1) = p := by rw [show p + 1 - 1 = p by omega]; exact w64 (by omega) (by omega)
/-- What is asked of a writer: its depths are small. -/
def Lo (a : z01) (n : Nat) : Prop := 0 ≤ a.f_parens ∧ a.f_parens + n ≤ 4611686018427387904
theorem Lo.act {a : z01} {n m : Nat} {x : Wr} (h : Lo a n) (hm : m ≤ n) : Lo (act a x) m := ⟨h.1, by have := h.2; simp; omega⟩
theorem Lo.le {a : z01} {n m : Nat} (h : Lo a n) (hm : m ≤ n) : Lo a m := ⟨h.1, by have := h.2; omega⟩
/-- One deeper, as deeper does it. -/
def dn (a : z01) : z01 := ⟨a.f_out, a.f_form, a.f_deep || decide (a.f_parens + 1 > 24), a.f_blocks, a.f_parens + 1⟩
theorem zve (a : z01) (x : Wr) : z01.mk (act (dn a) x).f_out (act (dn a) x).f_form (act (dn a) x).f_deep (act (dn a) x).f_blocks a.f_parens = act a (wD (a.f_parens + 1) ++ x) := by
 simp [act, dn, wD, Bool.or_assoc]
theorem z03s {a : z01} {n : Nat} (h : Lo a (n + 1)) : (if a.f_deep then (some true) else (some (decide ((IntKind.i64.wrap (a.f_parens + 1)) > 24))) : Option Bool) = some (a.f_deep || decide (a.f_parens + 1 > 24)) ∧ IntKind.i64.wrap (a.f_parens + 1) = a.f_parens + 1 := by
 have := w64p h.1 (by have := h.2; omega)
 rw [this]
 refine ⟨?_, rfl⟩
 cases a.f_deep <;> simp
def ExOk (e : z04) : Prop := ∀ n a, Lo a (2 * szE e) → Room a (5 * szE e) → Sn n (8 * szE e) (z1w n a e) (act a (sE e a.f_parens))
theorem zxl {e : z04} (h : ExOk e) (n : Nat) (a : z01) (m : Bool) (hl : Lo a (2 * szE e + 1)) (hr : Room a (5 * szE e + 2)) : Sn n (8 * szE e + 4) (z1y n a e m) (act a (inP m (sE e) a.f_parens)) := by
 cases n with
 | zero => exact .inr ⟨by simp [z1y], by omega⟩
 | succ n =>
  cases m with
  | false =>
   simp only [z1y, inP, Bool.not_false, if_true, Bool.false_eq_true, if_false]
   exact (((h n a (hl.le (by omega)) (hr.le (by omega))).bind (f := fun v1 => some v1) (.inl rfl)).mono (by omega : 8 * szE e ≤ 8 * szE e + 3)).up
  | true =>
   simp only [z1y, inP, Bool.not_true, Bool.false_eq_true, if_false, if_true]
   rw [z6s (hr.le (by simp))]
   simp only [Option.bind_eq_bind, Option.bind_some]
   have hl1 : Lo (act a (wW [ByteArray.mk #[40]])) (2 * szE e + 1) := hl.act (Nat.le_refl _)
   obtain ⟨e1, e2⟩ := z03s hl1
   have key : Sn n (8 * szE e + 2) (z0u n (act a (wW [ByteArray.mk #[40]])) e) (act (act a (wW [ByteArray.mk #[40]])) (wD (a.f_parens + 1) ++ sE e (a.f_parens + 1))) := by
    cases n with
    | zero => exact .inr ⟨by simp [z0u], by omega⟩
    | succ n =>
     simp only [z0u]
     rw [e1]
     simp only [Option.bind_eq_bind, Option.bind_some]
     rw [e2]
     have hd : Lo (dn (act a (wW [ByteArray.mk #[40]]))) (2 * szE e) := ⟨by have := hl.1; simp [dn]; omega, by have := hl.2; simp [dn]; omega⟩
     have hrm : Room (dn (act a (wW [ByteArray.mk #[40]]))) (5 * szE e) := by unfold Room at *; simp [dn, zlm, wW]; omega
     have k1 : Sn n (8 * szE e + 1) (z34 n (dn (act a (wW [ByteArray.mk #[40]]))) e) (act (dn (act a (wW [ByteArray.mk #[40]]))) (sE e (a.f_parens + 1))) := by
      cases n with
      | zero => exact .inr ⟨by simp [z34], by omega⟩
      | succ n =>
       simp only [z34]
       exact ((h n _ hd hrm).bind (f := fun v1 => some v1) (.inl rfl)).up
     refine (k1.bind (f := fun v1 => some (z01.mk v1.f_out v1.f_form v1.f_deep v1.f_blocks (IntKind.i64.wrap (v1.f_parens - 1)))) (.inl ?_)).up
     refine congrArg some ?_
     have hb := zve (act a (wW [ByteArray.mk #[40]])) (sE e (a.f_parens + 1))
     simp only [z57] at hb
     refine Eq.trans ?_ hb
     have : IntKind.i64.wrap ((act (dn (act a (wW [ByteArray.mk #[40]]))) (sE e (a.f_parens + 1))).f_parens - 1) = a.f_parens := by
      show IntKind.i64.wrap (a.f_parens + 1 - 1) = a.f_parens
      exact w64m hl.1 (by have := hl.2; omega)
     rw [this]
   refine ((key.bind (f := fun v3 => z07 v3 [ByteArray.mk #[41]] >>= fun v4 => some v4) (.inl ?_)).mono (by omega : 8 * szE e + 2 ≤ 8 * szE e + 3)).up
   have hlen := zel e (a.f_parens + 1)
   rw [z6s]
   ·simp only [Option.bind_eq_bind, Option.bind_some, z25, Wr.assoc]
   ·unfold Room at *; simp [zlm, wW, wD]; omega
end Go.Proofs.YtokjbpmjdcbogaaGreatDoor.Abs.Wri
/- The writer's expressions and comparisons are what WrA says. -/
namespace Go.Proofs.YtokjbpmjdcbogaaGreatDoor.Abs.Wri
open Go Go.RowKit
set_option linter.unusedVariables false
set_option linter.unusedSimpArgs false
theorem zqp {a : z01} {e : z04} (hn : in64 e.Num) (hs : e.Name.size ≤ 4194304) (hr : Room a 1) : z82 a e = some (act a (zed e)) := by
 unfold z82 zed
 have hr0 : ∀ b, Room (act a (wM b)) 1 := fun b => hr.act (by simp [wM])
 have hr1 : ∀ b c, Room (act (act a (wM b)) (wM c)) 1 := fun b c => (hr0 b).act (by simp [wM])
 simp only [zi6, Option.bind_eq_bind, Option.bind_some, zh3 (hr0 _) hn.1 hn.2, zaz (hr1 _ _) hs]
 cases (e.Kind == 1) <;> simp [z25, Wr.assoc]
theorem z00y {k m : Int} {s : ByteArray} {x : z04} (h : ExOk x) (n : Nat) (a : z01) (hl : Lo a (2 * szE x + 1)) (hr : Room a (5 * szE x + 2)) :
  Sn n (8 * szE x + 5) (z2x n a ⟨k, m, s, [x]⟩) (act a (inP (z9v x.Kind) (sE x) a.f_parens)) := by
 cases n with
 | zero => exact .inr ⟨by simp [z2x], by omega⟩
 | succ n =>
  simp only [z2x]
  rw [show idx (z04.mk k m s [x]).Kids 0 = some x from rfl]
  simp only [Option.bind_eq_bind, Option.bind_some, znf]
  exact ((zxl h n a (z9v x.Kind) hl hr).bind (f := fun v3 => some v3) (.inl rfl)).up
theorem zvf {k m : Int} {s : ByteArray} {x : z04} (h : ExOk x) (n : Nat) (a : z01) (hl : Lo a (2 * szE x + 2)) (hr : Room a (5 * szE x + 2)) :
  Sn n (8 * szE x + 6) (z0r n a ⟨k, m, s, [x]⟩) (act a (wD (a.f_parens + 1) ++ inP (z9v x.Kind) (sE x) (a.f_parens + 1))) := by
 cases n with
 | zero => exact .inr ⟨by simp [z0r], by omega⟩
 | succ n =>
  obtain ⟨e1, e2⟩ := z03s hl
  simp only [z0r]
  rw [e1]
  simp only [Option.bind_eq_bind, Option.bind_some]
  rw [e2]
  have hd : Lo (dn a) (2 * szE x + 1) := ⟨by have := hl.1; simp [dn]; omega, by have := hl.2; simp [dn]; omega⟩
  have hrm : Room (dn a) (5 * szE x + 2) := hr
  refine ((z00y (k := k) (m := m) (s := s) h n (dn a) hd hrm).bind (f := fun v1 => some (z01.mk v1.f_out v1.f_form v1.f_deep v1.f_blocks (IntKind.i64.wrap (v1.f_parens - 1)))) (.inl ?_)).up
  refine congrArg some ?_
  refine Eq.trans ?_ (zve a _)
  have : IntKind.i64.wrap ((act (dn a) (inP (z9v x.Kind) (sE x) (a.f_parens + 1))).f_parens - 1) = a.f_parens := by
   show IntKind.i64.wrap (a.f_parens + 1 - 1) = a.f_parens
   exact w64m hl.1 (by have := hl.2; omega)
  show z01.mk _ _ _ _ (IntKind.i64.wrap ((act (dn a) (inP (z9v x.Kind) (sE x) (a.f_parens + 1))).f_parens - 1)) = _
  rw [this]; rfl
theorem zlo : ∀ e : z04, okE e → ExOk e
 | ⟨k, m, s, []⟩, ho, n, a, hl, hr => by
  simp only [okE] at ho
  cases n with
  | zero => exact .inr ⟨by simp [z1w], by simp only [szE]; omega⟩
  | succ n =>
   refine .inl ?_
   have hlf := zqp (e := ⟨k, m, s, []⟩) ho.1 ho.2.1 (hr.le (by simp only [szE]; omega))
   simp only [z1w, sE, znf, Option.bind_eq_bind, Option.bind_some, hlf]
   cases (k == 3) <;> cases (z9v k) <;> simp
 | ⟨k, m, s, [x]⟩, ho, n, a, hl, hr => by
  simp only [okE, okEs] at ho
  have hx := zlo x ho.2.2.1
  simp only [szE, szEs] at hl hr
  cases n with
  | zero => exact .inr ⟨by simp [z1w], by simp only [szE]; omega⟩
  | succ n =>
   simp only [z1w, sE, znf, Option.bind_eq_bind, Option.bind_some]
   by_cases hk : (k == 3) = true
   ·have h1 : ((([x] : List z04).length : Int) == 1) = true := rfl
    simp only [hk, if_true, h1, Option.bind_some]
    rw [z6s (hr.le (by simp; omega))]
    simp only [Option.bind_some]
    have hr1 : Room (act a (wW [ByteArray.mk #[45]])) (5 * szE x + 2) := hr.act (by simp [wW]; omega)
    refine (((zvf (k := k) (m := m) (s := s) hx n (act a (wW [ByteArray.mk #[45]])) (hl.act (by omega)) hr1).bind (f := fun v2 => some v2) (.inl ?_)).mono (by simp only [szE, szEs]; omega : 8 * szE x + 6 ≤ 8 * szE ⟨k, m, s, [x]⟩ - 1)).up.mono (by simp only [szE]; omega)
    simp only [z25, z57]
   ·have hk : (k == 3) = false := by simpa using hk
    refine .inl ?_
    have hlf := zqp (e := ⟨k, m, s, [x]⟩) ho.1 ho.2.1 (hr.le (by omega))
    simp only [hk, hlf, Bool.false_eq_true, if_false, Option.bind_some]
    cases (z9v k) <;> simp
 | ⟨k, m, s, [l, r]⟩, ho, n, a, hl, hr => by
  simp only [okE, okEs] at ho
  have hL := zlo l ho.2.2.1
  have hR := zlo r ho.2.2.2.1
  simp only [szE, szEs] at hl hr
  cases n with
  | zero => exact .inr ⟨by simp [z1w], by simp only [szE]; omega⟩
  | succ n =>
   have h3 : ((if (k == 3) = true then some ((([l, r] : List z04).length : Int) == 1) else some false) : Option Bool) = some false := by
    split <;> rfl
   simp only [z1w, sE, znf, z04z, Option.bind_eq_bind, Option.bind_some]
   rw [h3]
   simp only [Option.bind_some, Bool.false_eq_true, if_false]
   by_cases hk : z9v k = true
   ·have h2 : ((([l, r] : List z04).length : Int) == 2) = true := rfl
    rw [if_pos hk, if_pos hk, h2]
    rw [show idx [l, r] 0 = some l from rfl, show idx [l, r] 1 = some r from rfl, zxk hk]
    simp only [Option.bind_some, if_true]
    have b1 := zln (!sumK k && sumK l.Kind) (sE l) a.f_parens (5 * szE l) (zel l)
    have k1 : Sn n (8 * szE l + 4) ((if (!sumK k) = true then (z1y n a l (sumK l.Kind)).bind fun v8 => some (v8.f_form, v8.f_deep, v8.f_blocks, v8.f_parens, v8.f_out) else (z1y n a l false).bind fun v9 => some (v9.f_form, v9.f_deep, v9.f_blocks, v9.f_parens, v9.f_out)) : Option (Bool × Bool × Int × Int × List ByteArray))
      (let v := act a (inP (!sumK k && sumK l.Kind) (sE l) a.f_parens); (v.f_form, v.f_deep, v.f_blocks, v.f_parens, v.f_out)) := by
     cases hs : sumK k
     ·simp only [Bool.not_false, if_true, Bool.true_and]
      exact (zxl hL n a _ (hl.le (by omega)) (hr.le (by omega))).bind (f := fun v8 => some (v8.f_form, v8.f_deep, v8.f_blocks, v8.f_parens, v8.f_out)) (.inl rfl)
     ·simp only [Bool.not_true, Bool.false_eq_true, if_false, Bool.false_and]
      exact (zxl hL n a _ (hl.le (by omega)) (hr.le (by omega))).bind (f := fun v8 => some (v8.f_form, v8.f_deep, v8.f_blocks, v8.f_parens, v8.f_out)) (.inl rfl)
    refine ((k1.mono (by simp only [szE, szEs]; omega : 8 * szE l + 4 ≤ 8 * szE ⟨k, m, s, [l, r]⟩ - 1)).bind ?_).up.mono (by simp only [szE]; omega)
    have hr2 : Room (act a (inP (!sumK k && sumK l.Kind) (sE l) a.f_parens)) (5 * szE r + 3) := hr.act (by omega)
    show Sn n _ ((z07 (act a (inP (!sumK k && sumK l.Kind) (sE l) a.f_parens)) [zg4 k]).bind _) _
    rw [z6s (hr2.le (by simp))]
    simp only [Option.bind_some, z25]
    have hr3 : Room (act a (inP (!sumK k && sumK l.Kind) (sE l) a.f_parens ++ wW [zg4 k])) (5 * szE r + 2) := by
     rw [← z25]; exact hr2.act (by simp [wW]; omega)
    have k2 : ∀ mm, Sn n (8 * szE ⟨k, m, s, [l, r]⟩ - 1) ((z1y n (act a (inP (!sumK k && sumK l.Kind) (sE l) a.f_parens ++ wW [zg4 k])) r mm).bind fun v => some v)
      (act a (inP (!sumK k && sumK l.Kind) (sE l) a.f_parens ++ (wW [zg4 k] ++ inP mm (sE r) a.f_parens))) := fun mm => by
     have := zxl hR n (act a (inP (!sumK k && sumK l.Kind) (sE l) a.f_parens ++ wW [zg4 k])) mm (hl.act (by omega)) hr3
     rw [z25, z57, Wr.assoc] at this
     exact (this.bind (f := fun v => some v) (.inl rfl)).mono (by simp only [szE, szEs]; omega)
    cases hsr : sumK r.Kind
    ·simp only [Bool.false_eq_true, if_false, Bool.false_or]
     cases hs : sumK k
     ·simp only [Bool.not_false, if_true, Bool.true_and]
      have := k2 (z9v r.Kind)
      rw [hs] at this; exact this
     ·simp only [Bool.not_true, Bool.false_eq_true, if_false, Bool.false_and]
      have := k2 false
      rw [hs] at this; exact this
    ·simp only [if_true, Bool.true_or]
     exact k2 true
   ·have hk : z9v k = false := by simpa using hk
    refine .inl ?_
    have hlf := zqp (e := ⟨k, m, s, [l, r]⟩) ho.1 ho.2.1 (hr.le (by omega))
    simp only [hk, hlf, Bool.false_eq_true, if_false, Option.bind_some]
 | ⟨k, m, s, x :: y :: z :: t⟩, ho, n, a, hl, hr => by
  simp only [okE] at ho
  cases n with
  | zero => exact .inr ⟨by simp [z1w], by simp only [szE]; omega⟩
  | succ n =>
   refine .inl ?_
   have hlf := zqp (e := ⟨k, m, s, x :: y :: z :: t⟩) ho.1 ho.2.1 (hr.le (by simp only [szE]; omega))
   have h1 : (((x :: y :: z :: t).length : Int) == 1) = false := by simp only [List.length_cons]; simp; omega
   have h2 : (((x :: y :: z :: t).length : Int) == 2) = false := by simp only [List.length_cons]; simp; omega
   simp only [z1w, sE, znf, Option.bind_eq_bind, Option.bind_some, hlf, h1, h2]
   cases (k == 3) <;> cases (z9v k) <;> simp
theorem zng {a : z01} {e : z04} (ho : okE e) (hl : Lo a (2 * szE e)) (hr : Room a (5 * szE e)) : z6i a e = some (act a (sE e a.f_parens)) :=
 Sn.unf fun n => zlo e ho n a hl hr
end Go.Proofs.YtokjbpmjdcbogaaGreatDoor.Abs.Wri
/- The writer's comparisons, blocks and statements are what WrA says. -/
namespace Go.Proofs.YtokjbpmjdcbogaaGreatDoor.Abs.Wri
open Go Go.RowKit
set_option linter.unusedVariables false
set_option linter.unusedSimpArgs false
def szC (c : z31) : Nat := 1 + szE c.L + szE c.R
def okC (c : z31) : Prop := okE c.L ∧ okE c.R
def opOk (k : Int) : Bool := decide (k ≥ 1) && decide (k ≤ 6)
def opW (k : Int) : ByteArray := match k with
 | 1 => ByteArray.mk #[61, 61] | 2 => ByteArray.mk #[33, 61] | 3 => ByteArray.mk #[60] | 4 => ByteArray.mk #[60, 61] | 5 => ByteArray.mk #[62] | _ => ByteArray.mk #[62, 61]
theorem z03t {k : Int} (h : opOk k = true) : idx [(ByteArray.mk #[61, 61]), (ByteArray.mk #[33, 61]), (ByteArray.mk #[60]), (ByteArray.mk #[60, 61]), (ByteArray.mk #[62]), (ByteArray.mk #[62, 61])] (IntKind.i64.wrap (k - 1)) = some (opW k) := by
 unfold opOk at h
 simp only [Bool.and_eq_true, decide_eq_true_eq] at h
 have : k = 1 ∨ k = 2 ∨ k = 3 ∨ k = 4 ∨ k = 5 ∨ k = 6 := by omega
 rcases this with rfl | rfl | rfl | rfl | rfl | rfl <;> rfl
def sC (c : z31) (p : Int) : Wr := wW [(ByteArray.mk #[40])] ++ (sE c.L p ++ ((if opOk c.Op then wW [opW c.Op] else wM false) ++ (sE c.R p ++ wW [(ByteArray.mk #[41])])))
theorem zyl (c : z31) (p : Int) : (sC c p).ws.length ≤ 5 * szC c := by
 have h1 := zel c.L p
 have h2 := zel c.R p
 unfold sC szC
 split <;> simp [wW, wM] <;> omega
theorem znb {a : z01} {c : z31} (ho : okC c) (hl : Lo a (2 * szC c)) (hr : Room a (5 * szC c)) : z6j a c = some (act a (sC c a.f_parens)) := by
 unfold z6j sC
 unfold szC at hl hr
 have h1 := zel c.L a.f_parens
 have h2 := zel c.R a.f_parens
 have r1 : Room (act a (wW [ByteArray.mk #[40]])) (5 * szE c.L + 5 * szE c.R + 3) := hr.act (by simp [wW]; omega)
 rw [z6s (hr.le (by simp; omega))]
 simp only [Option.bind_eq_bind, Option.bind_some]
 rw [zng ho.1 (hl.act (by omega)) (r1.le (by omega))]
 have r2 : Room (act (act a (wW [ByteArray.mk #[40]])) (sE c.L a.f_parens)) (5 * szE c.R + 3) := r1.act (by omega)
 have hj : ((if decide (c.Op < 1) = true then some true else some (decide (c.Op > 6))) : Option Bool) = some (!opOk c.Op) := by
  unfold opOk
  by_cases h : c.Op < 1
  ·have : ¬ (c.Op ≥ 1) := by omega
   simp [h, this]
  ·have : c.Op ≥ 1 := by omega
   simp only [h, this, decide_false, decide_true, Bool.false_eq_true, if_false, Bool.true_and]
   by_cases h6 : c.Op > 6
   ·have : ¬ c.Op ≤ 6 := by omega
    simp [h6, this]
   ·have : c.Op ≤ 6 := by omega
    simp [h6, this]
 simp only [Option.bind_some, z57, hj, zi6]
 cases hok : opOk c.Op
 ·simp only [Bool.not_false, if_true, Bool.false_eq_true, if_false]
  have r3 : Room (act (act (act a (wW [ByteArray.mk #[40]])) (sE c.L a.f_parens)) (wM false)) (5 * szE c.R + 3) := r2.act (by simp [wM])
  rw [zng ho.2 (((hl.act (Nat.le_refl _)).act (Nat.le_refl _)).act (by omega)) (r3.le (by omega))]
  simp only [Option.bind_some, z57]
  rw [z6s (r3.act (m := 1) (by omega))]
  simp only [Option.bind_some, z25, Wr.assoc]
 ·simp only [Bool.not_true, if_true, Bool.false_eq_true, if_false, z03t hok, Option.bind_some]
  rw [z6s (r2.le (by simp))]
  simp only [Option.bind_some]
  have r3 : Room (act (act (act a (wW [ByteArray.mk #[40]])) (sE c.L a.f_parens)) (wW [opW c.Op])) (5 * szE c.R + 2) := r2.act (by simp [wW]; omega)
  rw [zng ho.2 (((hl.act (Nat.le_refl _)).act (Nat.le_refl _)).act (by omega)) (r3.le (by omega))]
  simp only [Option.bind_some, z57]
  rw [z6s (r3.act (m := 1) (by omega))]
  simp only [Option.bind_some, z25, Wr.assoc]
/-! ### Statements -/
mutual
def szS : z03 → Nat
 | .mk _ _ _ e c b l a => 4 + szE e + szC c + szL b + szL l + szA a
def szL : List z03 → Nat
 | [] => 1
 | s :: r => szS s + szL r
def szA : List z0m → Nat
 | [] => 1
 | .mk _ _ b :: r => 2 + szL b + szA r
end
mutual
def okS : z03 → Prop
 | .mk _ n t e c b l a => n.size ≤ 4194304 ∧ t.size ≤ 4194304 ∧ okE e ∧ okC c ∧ okL b ∧ okL l ∧ okA a
def okL : List z03 → Prop
 | [] => True
 | s :: r => okS s ∧ okL r
def okA : List z0m → Prop
 | [] => True
 | .mk t v b :: r => t.size ≤ 4194304 ∧ v.size ≤ 4194304 ∧ okL b ∧ okA r
end
/-- A block's words, of its statements'. -/
def inB (f : Int → Wr) (b : Int) : Wr := wW [(ByteArray.mk #[123])] ++ (wD (b + 1) ++ (f (b + 1) ++ wW [(ByteArray.mk #[125])]))
mutual
def sS : z03 → Int → Int → Wr
 | .mk k n t e c bo el ar, b, p =>
  if k == 1 then wN n ++ (wW [(ByteArray.mk #[61])] ++ (sE e p ++ wW [(ByteArray.mk #[59])]))
  else if k == 2 then wW [(ByteArray.mk #[105, 102])] ++ (sC c p ++ (inB (fun q => sL bo q p) b ++ (if el.isEmpty then Wr.nil else wW [(ByteArray.mk #[101, 108, 115, 101])] ++ inB (fun q => sL el q p) b)))
  else if k == 3 then wW [(ByteArray.mk #[119, 104, 105, 108, 101])] ++ (sC c p ++ inB (fun q => sL bo q p) b)
  else if k == 4 then wW [(ByteArray.mk #[115, 101, 110, 100])] ++ (wN n ++ (wW [(ByteArray.mk #[46])] ++ (wN t ++ (wW [(ByteArray.mk #[40])] ++ (sE e p ++ wW [(ByteArray.mk #[41]), (ByteArray.mk #[59])])))))
  else if k == 5 then wW [(ByteArray.mk #[114, 101, 99, 118])] ++ (wN n ++ (wM (!ar.isEmpty) ++ (wW [(ByteArray.mk #[123])] ++ (sA ar b p ++ wW [(ByteArray.mk #[125])]))))
  else if k == 6 then wW [(ByteArray.mk #[97, 115, 115, 101, 114, 116])] ++ (sC c p ++ wW [(ByteArray.mk #[59])])
  else if k == 7 then wW [(ByteArray.mk #[105, 110, 112, 117, 116])] ++ (wN n ++ wW [(ByteArray.mk #[59])])
  else wM false
def sL : List z03 → Int → Int → Wr
 | [], _, _ => Wr.nil
 | s :: r, b, p => sS s b p ++ sL r b p
def sA : List z0m → Int → Int → Wr
 | [], _, _ => Wr.nil
 | .mk t v bo :: r, b, p => wN t ++ (wW [(ByteArray.mk #[40])] ++ (wN v ++ (wW [(ByteArray.mk #[41])] ++ (inB (fun q => sL bo q p) b ++ sA r b p))))
end
theorem zhv (f : Int → Wr) (b : Int) (c : Nat) (h : ∀ q, (f q).ws.length ≤ c) : (inB f b).ws.length ≤ c + 2 := by
 have := h (b + 1)
 unfold inB; simp [wW, wD]; omega
mutual
theorem zym : ∀ (s : z03) (b p : Int), (sS s b p).ws.length ≤ 5 * szS s
 | .mk k n t e c bo el ar, b, p => by
  have h1 := zel e p
  have h2 := zyl c p
  have h3 := zhv (fun q => sL bo q p) b _ fun q => zfi bo q p
  have h4 := zhv (fun q => sL el q p) b _ fun q => zfi el q p
  have h5 := zqq ar b p
  have h6 := z7j bo
  have h7 := z7j el
  have h8 := zga ar
  simp only [sS, szS]
  split
  ·simp [wN, wW]; omega
  ·split
   ·split <;> simp [wN, wW, Wr.nil] <;> omega
   ·split
    ·simp [wN, wW]; omega
    ·split
     ·simp [wN, wW]; omega
     ·split
      ·simp [wN, wW, wM]; omega
      ·split
       ·simp [wW]; omega
       ·split
        ·simp [wN, wW]; omega
        ·simp [wM]
theorem zfi : ∀ (l : List z03) (b p : Int), (sL l b p).ws.length ≤ 5 * szL l
 | [], b, p => by simp [sL, Wr.nil]
 | s :: r, b, p => by
  have := zym s b p
  have := zfi r b p
  simp only [sL, szL, Wr.ws_app, List.length_append]; omega
theorem zqq : ∀ (l : List z0m) (b p : Int), (sA l b p).ws.length ≤ 5 * szA l
 | [], b, p => by simp [sA, Wr.nil]
 | .mk t v bo :: r, b, p => by
  have := zhv (fun q => sL bo q p) b _ fun q => zfi bo q p
  have := zqq r b p
  simp only [sA, szA]; simp [wN, wW]; omega
theorem z7j : ∀ l : List z03, 1 ≤ szL l
 | [] => by simp [szL]
 | s :: r => by have := z7j r; simp only [szL]; omega
theorem zga : ∀ l : List z0m, 1 ≤ szA l
 | [] => by simp [szA]
 | .mk t v bo :: r => by simp only [szA]; omega
end
end Go.Proofs.YtokjbpmjdcbogaaGreatDoor.Abs.Wri
/- The writer's statements are what WrC says. -/
namespace Go.Proofs.YtokjbpmjdcbogaaGreatDoor.Abs.Wri
open Go Go.RowKit
set_option linter.unusedVariables false
set_option linter.unusedSimpArgs false
def Lq (a : z01) (n : Nat) : Prop := Lo a n ∧ 0 ≤ a.f_blocks ∧ a.f_blocks + n ≤ 4611686018427387904
theorem Lq.act {a : z01} {n m : Nat} {x : Wr} (h : Lq a n) (hm : m ≤ n) : Lq (act a x) m := ⟨h.1.act hm, h.2.1, by have := h.2.2; simp; omega⟩
theorem Lq.le {a : z01} {n m : Nat} (h : Lq a n) (hm : m ≤ n) : Lq a m := ⟨h.1.le hm, h.2.1, by have := h.2.2; omega⟩
def tp (a : z01) : Bool × Bool × Int × Int × List ByteArray := (a.f_form, a.f_deep, a.f_blocks, a.f_parens, a.f_out)
def StOk (s : z03) : Prop := ∀ n a, Lq a (2 * szS s) → Room a (5 * szS s) → Sn n (8 * szS s) (z27 n a s) (act a (sS s a.f_blocks a.f_parens))
def LsOk (l : List z03) : Prop := ∀ n a, Lq a (2 * szL l) → Room a (5 * szL l) → Sn n (8 * szL l) (z1x n a l) (act a (sL l a.f_blocks a.f_parens))
theorem zlp : ∀ l : List z03, l.length ≤ szL l
 | [] => by simp
 | s :: r => by
  have := zlp r
  have : 4 ≤ szS s := by cases s; simp only [szS]; omega
  simp only [szL, List.length_cons]; omega
theorem zld : ∀ l : List z0m, l.length ≤ szA l
 | [] => by simp
 | .mk t v b :: r => by
  have := zld r
  simp only [szA, List.length_cons]; omega
theorem zsh {F1 : z01 → List z03 → Option z01} {F3 : z01 → List z03 → Option z01} {F4 : z01 → List z0m → Option z01} (n : Nat) (a1 : List z03) (hlen : a1.length ≤ 4611686018427387904) :
  ∀ (l : List z03) (i : Nat) (a : z01), a1.drop i = l → i ≤ a1.length → (∀ s ∈ l, StOk s) → Lq a (2 * szL l) → Room a (5 * szL l) →
   Sn n (8 * szL l - 8) (iter (z58 F1 (z27 n) F3 F4 a1) ((i : Int), tp a)) (.inr (tp (act a (sL l a.f_blocks a.f_parens)))) := by
 intro l
 induction l with
 | nil =>
  intro i a hd hi hs hq hr
  have : i = a1.length := by have := List.drop_eq_nil_iff.1 hd; omega
  refine .inl (z6r ?_)
  unfold z58
  rw [if_neg (by simp; omega)]
  simp [sL, Wr.nil, act, tp]
 | cons s r ih =>
  intro i a hd hi hs hq hr
  have hlt : i < a1.length := by
   refine Nat.lt_of_not_le fun h => ?_
   rw [List.drop_of_length_le h] at hd; cases hd
  rw [List.drop_eq_getElem_cons hlt] at hd
  injection hd with h1 h2
  have hi2 : idx a1 (i : Int) = some s := by rw [zfg hlt, h1]
  have hw : IntKind.i64.wrap ((i : Int) + 1) = ((i + 1 : Nat) : Int) := by rw [w64 (by omega) (by omega)]; omega
  have hb : z58 F1 (z27 n) F3 F4 a1 ((i : Int), tp a) = (z27 n a s).bind fun v2 => some (.inl (((i + 1 : Nat) : Int), tp v2)) := by
   unfold z58
   rw [if_pos (by simp; omega)]
   simp only [hi2, Option.bind_eq_bind, Option.bind_some, hw]
   rfl
  simp only [szL] at hq hr ⊢
  have hp := z7j r
  rw [zbl, hb, Option.bind_eq_bind, Option.bind_assoc]
  refine Sn.bind (x := z27 n a s) (((hs s List.mem_cons_self) n a (hq.le (by omega)) (hr.le (by omega))).mono (by omega)) ?_
  have hl := zym s a.f_blocks a.f_parens
  have := ih (i + 1) (act a (sS s a.f_blocks a.f_parens)) h2 hlt (fun s hs' => hs s (List.mem_cons_of_mem _ hs')) (hq.act (by omega)) (hr.act (by omega))
  simp only [zaj, z57, z25] at this
  simp only [sL]
  exact this.mono (by omega)
theorem zil {l : List z03} (hs : ∀ s ∈ l, StOk s) : LsOk l := by
 intro n a hq hr
 have hp := z7j l
 cases n with
 | zero => exact .inr ⟨by simp [z1x], by omega⟩
 | succ n =>
  simp only [z1x]
  have hl := zlp l
  have hb := hq.2
  have := zsh (F1 := z1x n) (F3 := z1l n) (F4 := z2l n) n l (by omega) l 0 a rfl (by omega) hs hq hr
  have hput : Sum.elim (fun _ => (none : Option z01)) (fun j1 => some (z01.mk j1.2.2.2.2 j1.1 j1.2.1 j1.2.2.1 j1.2.2.2.1)) (Sum.inr (tp (act a (sL l a.f_blocks a.f_parens))) : Sum z01 (Bool × Bool × Int × Int × List ByteArray)) = some (act a (sL l a.f_blocks a.f_parens)) := rfl
  have t2 := (Sn.bind this (.inl hput)).up
  exact t2.mono (by omega)
/-! ### Blocks -/
theorem z050 {p : Int} (h0 : 0 ≤ p) (h1 : p + 1 ≤ 4611686018427387904) : IntKind.i64.wrap (p + 1) = p + 1 := w64 (by omega) (by omega)
theorem zim {l : List z03} (h : LsOk l) (n : Nat) (a : z01) (hq : Lq a (2 * szL l + 1)) (hr : Room a (5 * szL l + 2)) :
  Sn n (8 * szL l + 1) (z1l n a l) (act a (inB (fun q => sL l q a.f_parens) a.f_blocks)) := by
 cases n with
 | zero => exact .inr ⟨by simp [z1l], by omega⟩
 | succ n =>
  simp only [z1l]
  rw [z6s (hr.le (by simp))]
  simp only [Option.bind_eq_bind, Option.bind_some]
  have hw : IntKind.i64.wrap ((act a (wW [ByteArray.mk #[123]])).f_blocks + 1) = a.f_blocks + 1 := z050 (p := a.f_blocks) hq.2.1 (by have := hq.2.2; omega)
  have hj : ((if (act a (wW [ByteArray.mk #[123]])).f_deep = true then some true else some (decide (IntKind.i64.wrap ((act a (wW [ByteArray.mk #[123]])).f_blocks + 1) > 24))) : Option Bool) = some (a.f_deep || decide (a.f_blocks + 1 > 24)) := by
   rw [hw]
   simp only [act, wW, Bool.or_false]; cases a.f_deep <;> simp
  rw [hj]
  simp only [Option.bind_some]
  rw [hw]
  generalize hb' : (z01.mk (act a (wW [ByteArray.mk #[123]])).f_out (act a (wW [ByteArray.mk #[123]])).f_form (a.f_deep || decide (a.f_blocks + 1 > 24)) (a.f_blocks + 1) (act a (wW [ByteArray.mk #[123]])).f_parens) = b
  have e1 : b.f_blocks = a.f_blocks + 1 := by rw [← hb']
  have e2 : b.f_parens = a.f_parens := by rw [← hb']; rfl
  have e3 : b.f_out = a.f_out ++ [ByteArray.mk #[123]] := by rw [← hb']; rfl
  have hqb : Lq b (2 * szL l) := ⟨⟨by rw [e2]; exact hq.1.1, by rw [e2]; have := hq.1.2; omega⟩, by rw [e1]; have := hq.2.1; omega, by rw [e1]; have := hq.2.2; omega⟩
  have hrb : Room b (5 * szL l + 1) := by unfold Room at *; rw [e3]; simp; omega
  have hl := zfi l b.f_blocks b.f_parens
  have hw2 : IntKind.i64.wrap ((act b (sL l b.f_blocks b.f_parens)).f_blocks - 1) = a.f_blocks := by
   show IntKind.i64.wrap (b.f_blocks - 1) = _
   rw [e1, show a.f_blocks + 1 - 1 = a.f_blocks by omega]
   exact w64 (by have := hq.2.1; omega) (by have := hq.2.2; omega)
  have he : z01.mk (act b (sL l b.f_blocks b.f_parens)).f_out (act b (sL l b.f_blocks b.f_parens)).f_form (act b (sL l b.f_blocks b.f_parens)).f_deep a.f_blocks (act b (sL l b.f_blocks b.f_parens)).f_parens
    = act a (wW [ByteArray.mk #[123]] ++ (wD (a.f_blocks + 1) ++ sL l (a.f_blocks + 1) a.f_parens)) := by
   rw [e1, e2, ← hb']
   simp [act, wW, wD, Bool.or_assoc]
  have hput : (fun v2 => (z07 (z01.mk v2.f_out v2.f_form v2.f_deep (IntKind.i64.wrap (v2.f_blocks - 1)) v2.f_parens) [ByteArray.mk #[125]]).bind fun v3 => some v3) (act b (sL l b.f_blocks b.f_parens)) = some (act a (inB (fun q => sL l q a.f_parens) a.f_blocks)) := by
   show (z07 (z01.mk _ _ _ (IntKind.i64.wrap ((act b (sL l b.f_blocks b.f_parens)).f_blocks - 1)) _) _).bind _ = _
   rw [hw2, he, z6s]
   ·simp only [Option.bind_some, z25, Wr.assoc]; rfl
   ·rw [e1, e2] at hl
    unfold Room at *; simp [zlm, wW, wD]; omega
  have key : ∀ f : z01 → Option z01, f (act b (sL l b.f_blocks b.f_parens)) = some (act a (inB (fun q => sL l q a.f_parens) a.f_blocks)) → Sn (n + 1) (8 * szL l + 1) ((z1x n b l).bind f) (act a (inB (fun q => sL l q a.f_parens) a.f_blocks)) :=
   fun f hf => (Sn.bind (f := f) (h n b hqb (hrb.le (by omega))) (.inl hf)).up
  refine key _ ?_
  exact hput
/-! ### Arms -/
theorem zvg {F1 : z01 → List z03 → Option z01} {F2 : z01 → z03 → Option z01} {F4 : z01 → List z0m → Option z01} (n : Nat) (a1 : List z0m) (hlen : a1.length ≤ 4611686018427387904) :
  ∀ (l : List z0m) (i : Nat) (a : z01), a1.drop i = l → i ≤ a1.length → (∀ x ∈ l, LsOk x.Body) → okA l → Lq a (2 * szA l) → Room a (5 * szA l) →
   Sn n (8 * szA l - 8) (iter (z5i F1 F2 (z1l n) F4 a1) ((i : Int), tp a)) (.inr (tp (act a (sA l a.f_blocks a.f_parens)))) := by
 intro l
 induction l with
 | nil =>
  intro i a hd hi hs ho hq hr
  have : i = a1.length := by have := List.drop_eq_nil_iff.1 hd; omega
  refine .inl (z6r ?_)
  unfold z5i
  rw [if_neg (by simp; omega)]
  simp [sA, Wr.nil, act, tp]
 | cons s r ih =>
  intro i a hd hi hs ho hq hr
  obtain ⟨t, v, bo⟩ := s
  have hlt : i < a1.length := by
   refine Nat.lt_of_not_le fun h => ?_
   rw [List.drop_of_length_le h] at hd; cases hd
  rw [List.drop_eq_getElem_cons hlt] at hd
  injection hd with h1 h2
  have hi2 : idx a1 (i : Int) = some (.mk t v bo) := by rw [zfg hlt, h1]
  have hw : IntKind.i64.wrap ((i : Int) + 1) = ((i + 1 : Nat) : Int) := by rw [w64 (by omega) (by omega)]; omega
  simp only [okA] at ho
  simp only [szA] at hq hr ⊢
  have hp := zga r
  have hpl := z7j bo
  have r1 : Room (act a (wN t)) (5 * szL bo + 5 * szA r + 9) := hr.act (by simp [wN]; omega)
  have r2 : Room (act a (wN t ++ wW [ByteArray.mk #[40]])) (5 * szL bo + 5 * szA r + 8) := hr.act (by simp [wN, wW]; omega)
  have r3 : Room (act a (wN t ++ (wW [ByteArray.mk #[40]] ++ wN v))) (5 * szL bo + 5 * szA r + 7) := hr.act (by simp [wN, wW]; omega)
  have r4 : Room (act a (wN t ++ (wW [ByteArray.mk #[40]] ++ (wN v ++ wW [ByteArray.mk #[41]])))) (5 * szL bo + 5 * szA r + 6) := hr.act (by simp [wN, wW]; omega)
  have hb : z5i F1 F2 (z1l n) F4 a1 ((i : Int), tp a) = (z1l n (act a (wN t ++ (wW [ByteArray.mk #[40]] ++ (wN v ++ wW [ByteArray.mk #[41]])))) bo).bind fun v2 => some (.inl (((i + 1 : Nat) : Int), tp v2)) := by
   unfold z5i
   rw [if_pos (by simp; omega)]
   simp only [hi2, Option.bind_eq_bind, Option.bind_some, hw]
   show (z18 a t).bind _ = _
   rw [zaz (hr.le (by omega)) ho.1]
   simp only [Option.bind_some]
   rw [z6s (r1.le (by simp))]
   simp only [Option.bind_some, z25]
   show (z18 _ v).bind _ = _
   rw [zaz (r2.le (by omega)) ho.2.1]
   simp only [Option.bind_some, z25, Wr.assoc]
   rw [z6s (r3.le (by simp))]
   simp only [Option.bind_some, z25, Wr.assoc]
   rfl
  rw [zbl, hb, Option.bind_eq_bind, Option.bind_assoc]
  have hbk := zim (hs _ List.mem_cons_self) n (act a (wN t ++ (wW [ByteArray.mk #[40]] ++ (wN v ++ wW [ByteArray.mk #[41]])))) (hq.act (by show 2 * szL bo + 1 ≤ _; omega)) (r4.le (by show 5 * szL bo + 2 ≤ _; omega))
  refine Sn.bind (hbk.mono (by show 8 * szL bo + 1 ≤ _; omega)) ?_
  have hl := zhv (fun q => sL bo q a.f_parens) a.f_blocks _ fun q => zfi bo q a.f_parens
  have := ih (i + 1) (act a (wN t ++ (wW [ByteArray.mk #[40]] ++ (wN v ++ (wW [ByteArray.mk #[41]] ++ inB (fun q => sL bo q a.f_parens) a.f_blocks))))) h2 hlt (fun s hs' => hs s (List.mem_cons_of_mem _ hs')) ho.2.2.2 (hq.act (by omega)) (hr.act (by simp [wN, wW]; omega))
  simp only [zaj, z57, z25, Wr.assoc] at this ⊢
  simp only [sA]
  exact this.mono (by omega)
theorem z00z {l : List z0m} (hs : ∀ x ∈ l, LsOk x.Body) (ho : okA l) (n : Nat) (a : z01) (hq : Lq a (2 * szA l)) (hr : Room a (5 * szA l + 2)) :
  Sn n (8 * szA l) (z2l n a l) (act a (wM (!l.isEmpty) ++ (wW [ByteArray.mk #[123]] ++ (sA l a.f_blocks a.f_parens ++ wW [ByteArray.mk #[125]])))) := by
 have hp := zga l
 cases n with
 | zero => exact .inr ⟨by simp [z2l], by omega⟩
 | succ n =>
  simp only [z2l]
  have he : (decide ((l.length : Int) > 0)) = !l.isEmpty := by cases l <;> simp
  rw [he, zi6]
  have r1 : Room (act a (wM (!l.isEmpty))) (5 * szA l + 2) := hr.act (by simp [wM])
  simp only [Option.bind_eq_bind, Option.bind_some]
  rw [z6s (r1.le (by simp))]
  simp only [Option.bind_some, z25]
  have hl := zld l
  have hb := hq.2
  have r2 : Room (act a (wM (!l.isEmpty) ++ wW [ByteArray.mk #[123]])) (5 * szA l + 1) := hr.act (by simp [wM, wW]; omega)
  have := zvg (F1 := z1x n) (F2 := z27 n) (F4 := z2l n) n l (by omega) l 0 (act a (wM (!l.isEmpty) ++ wW [ByteArray.mk #[123]])) rfl (by omega) hs ho (hq.act (Nat.le_refl _)) (r2.le (by omega))
  have hA := zqq l a.f_blocks a.f_parens
  have hput : Sum.elim (fun _ => (none : Option z01)) (fun j1 => (z07 (z01.mk j1.2.2.2.2 j1.1 j1.2.1 j1.2.2.1 j1.2.2.2.1) [ByteArray.mk #[125]]).bind fun v9 => some v9) (Sum.inr (tp (act (act a (wM (!l.isEmpty) ++ wW [ByteArray.mk #[123]])) (sA l a.f_blocks a.f_parens))) : Sum z01 (Bool × Bool × Int × Int × List ByteArray)) = some (act a (wM (!l.isEmpty) ++ (wW [ByteArray.mk #[123]] ++ (sA l a.f_blocks a.f_parens ++ wW [ByteArray.mk #[125]])))) := by
   show (z07 (act (act a (wM (!l.isEmpty) ++ wW [ByteArray.mk #[123]])) (sA l a.f_blocks a.f_parens)) [ByteArray.mk #[125]]).bind _ = _
   rw [z6s (r2.act (by simp; omega))]
   simp only [Option.bind_some, z25, Wr.assoc]
  have t2 := (Sn.bind this (.inl hput)).up
  exact t2.mono (by omega)
end Go.Proofs.YtokjbpmjdcbogaaGreatDoor.Abs.Wri
/- The writer's statements, at last. -/
namespace Go.Proofs.YtokjbpmjdcbogaaGreatDoor.Abs.Wri
open Go Go.RowKit
set_option linter.unusedVariables false
set_option linter.unusedSimpArgs false
theorem zem : ∀ {l : List z03}, okL l → ∀ s ∈ l, okS s ∧ szS s + 1 ≤ szL l
 | [], _, s, hs => by cases hs
 | x :: r, ho, s, hs => by
  simp only [okL] at ho
  have := z7j r
  rcases List.mem_cons.1 hs with rfl | hs
  ·exact ⟨ho.1, by simp only [szL]; omega⟩
  ·have := zem ho.2 s hs
   exact ⟨this.1, by simp only [szL]; omega⟩
theorem zlq : ∀ {l : List z0m}, okA l → ∀ x ∈ l, okL x.Body ∧ szL x.Body ≤ szA l
 | [], _, s, hs => by cases hs
 | .mk t v b :: r, ho, s, hs => by
  simp only [okA] at ho
  rcases List.mem_cons.1 hs with rfl | hs
  ·exact ⟨ho.2.2.1, by simp only [szA]; show szL b ≤ _; omega⟩
  ·have := zlq ho.2.2.2 s hs
   exact ⟨this.1, by simp only [szA]; omega⟩
theorem zp4 {n h : Nat} {x : Option z01} {r : z01} (k : Sn n h x r) : Sn n h (x.bind fun v => some v) r := Sn.bind (f := fun v => some v) k (.inl rfl)
theorem z010 {n h : Nat} {x : Option z01} {f : z01 → Option z01} {r t : z01} (s : Sn n h x r) (k : Sn n h (f r) t) : Sn n h (x.bind f) t := Sn.bind (f := f) s k
theorem z011 : ∀ (N : Nat) (s : z03), szS s ≤ N → okS s → StOk s := by
 intro N
 induction N with
 | zero => intro s hs; cases s; simp only [szS] at hs; omega
 | succ N ih =>
  intro s hs ho n a hq hr
  obtain ⟨k, nm, tg, e, c, bo, el, ar⟩ := s
  simp only [szS] at hs
  simp only [okS] at ho
  obtain ⟨on, ot, oe, oc, ob, oel, oar⟩ := ho
  have hbo : LsOk bo := zil fun s h => ih s (by have := (zem ob s h).2; omega) (zem ob s h).1
  have hel : LsOk el := zil fun s h => ih s (by have := (zem oel s h).2; omega) (zem oel s h).1
  have har : ∀ x ∈ ar, LsOk x.Body := fun x hx => zil fun s h => ih s (by have := (zem (zlq oar x hx).1 s h).2; have := (zlq oar x hx).2; omega) (zem (zlq oar x hx).1 s h).1
  have hz : szS (.mk k nm tg e c bo el ar) = 4 + szE e + szC c + szL bo + szL el + szA ar := by simp only [szS]
  rw [hz] at hq hr ⊢
  have p1 := z7j bo
  have p2 := z7j el
  have p3 := zga ar
  have lE := zel e a.f_parens
  have lC := zyl c a.f_parens
  have lB := zhv (fun q => sL bo q a.f_parens) a.f_blocks _ fun q => zfi bo q a.f_parens
  have lL := zhv (fun q => sL el q a.f_parens) a.f_blocks _ fun q => zfi el q a.f_parens
  have lA := zqq ar a.f_blocks a.f_parens
  cases n with
  | zero => exact .inr ⟨by simp [z27], by omega⟩
  | succ n =>
   have helt : (decide (((z03.mk k nm tg e c bo el ar).Else.length : Int) > 0)) = !el.isEmpty := by show decide ((el.length : Int) > 0) = _; cases el <;> simp
   simp only [z27, sS, helt, Option.bind_eq_bind]
   dsimp only [z03.Kind, z03.Name, z03.Tag, z03.E, z03.C, z03.Body, z03.Else, z03.Arms]
   by_cases h1 : (k == 1) = true
   case pos =>
    refine .inl ?_
    simp only [h1, if_true]
    rw [zaz (hr.le (by omega)) on]
    simp only [Option.bind_some]
    rw [z6s (hr.act (by simp [wN]; omega))]
    simp only [Option.bind_some, z25]
    rw [zng oe (hq.1.act (by omega)) (hr.act (by simp [wN, wW]; omega))]
    simp only [Option.bind_some, z25, z57]
    rw [z6s (hr.act (by simp [wN, wW]; omega))]
    simp only [Option.bind_some, z25, Wr.assoc]
   case neg =>
   have h1 := Bool.eq_false_iff.2 h1
   simp only [h1, Bool.false_eq_true, if_false]
   by_cases h2 : (k == 2) = true
   case pos =>
    simp only [h2, if_true]
    rw [z6s (hr.le (by simp; omega))]
    simp only [Option.bind_some]
    rw [znb oc (hq.1.act (by omega)) (hr.act (by simp [wW]; omega))]
    simp only [Option.bind_some, z25, z57]
    have kb := zim hbo n (act a (wW [ByteArray.mk #[105, 102]] ++ sC c a.f_parens)) (hq.act (by omega)) (hr.act (by simp [wW]; omega))
    simp only [z25, zaj, z57, Wr.assoc] at kb
    refine Sn.mono (Sn.up (z010 (kb.mono (by omega : _ ≤ 8 * (4 + szE e + szC c + szL bo + szL el + szA ar) - 1)) ?_)) (by omega)
    cases he : el.isEmpty with
    | true =>
     refine .inl ?_
     simp [Wr.app_nil]
    | false =>
     simp only [Bool.not_false, if_true]
     rw [z6s (hr.act (by simp [wW]; omega))]
     simp only [Option.bind_some, z25, Bool.false_eq_true, if_false]
     have ke := zim hel n (act a (wW [ByteArray.mk #[105, 102]] ++ (sC c a.f_parens ++ (inB (fun q => sL bo q a.f_parens) a.f_blocks)) ++ wW [ByteArray.mk #[101, 108, 115, 101]])) (hq.act (by omega)) (hr.act (by simp [wW]; omega))
     simp only [z25, zaj, z57, Wr.assoc] at ke ⊢
     exact zp4 (ke.mono (by omega))
   case neg =>
   have h2 := Bool.eq_false_iff.2 h2
   simp only [h2, Bool.false_eq_true, if_false]
   by_cases h3 : (k == 3) = true
   case pos =>
    simp only [h3, if_true]
    rw [z6s (hr.le (by simp; omega))]
    simp only [Option.bind_some]
    rw [znb oc (hq.1.act (by omega)) (hr.act (by simp [wW]; omega))]
    simp only [Option.bind_some, z25, z57]
    have kb := zim hbo n (act a (wW [ByteArray.mk #[119, 104, 105, 108, 101]] ++ sC c a.f_parens)) (hq.act (by omega)) (hr.act (by simp [wW]; omega))
    simp only [z25, zaj, z57, Wr.assoc] at kb
    exact Sn.mono (Sn.up (zp4 (kb.mono (by omega : _ ≤ 8 * (4 + szE e + szC c + szL bo + szL el + szA ar) - 1)))) (by omega)
   case neg =>
   have h3 := Bool.eq_false_iff.2 h3
   simp only [h3, Bool.false_eq_true, if_false]
   by_cases h4 : (k == 4) = true
   case pos =>
    refine .inl ?_
    simp only [h4, if_true]
    rw [z6s (hr.le (by simp; omega))]
    simp only [Option.bind_some]
    rw [zaz (hr.act (by simp [wW]; omega)) on]
    simp only [Option.bind_some, z25]
    rw [z6s (hr.act (by simp [wN, wW]; omega))]
    simp only [Option.bind_some, z25]
    rw [zaz (hr.act (by simp [wN, wW]; omega)) ot]
    simp only [Option.bind_some, z25]
    rw [z6s (hr.act (by simp [wN, wW]; omega))]
    simp only [Option.bind_some, z25]
    rw [zng oe (hq.1.act (by omega)) (hr.act (by simp [wN, wW]; omega))]
    simp only [Option.bind_some, z25, z57]
    rw [z6s (hr.act (by simp [wN, wW]; omega))]
    simp only [Option.bind_some, z25, Wr.assoc]
   case neg =>
   have h4 := Bool.eq_false_iff.2 h4
   simp only [h4, Bool.false_eq_true, if_false]
   by_cases h5 : (k == 5) = true
   case pos =>
    simp only [h5, if_true]
    rw [z6s (hr.le (by simp; omega))]
    simp only [Option.bind_some]
    rw [zaz (hr.act (by simp [wW]; omega)) on]
    simp only [Option.bind_some, z25]
    have ka := z00z har oar n (act a (wW [ByteArray.mk #[114, 101, 99, 118]] ++ wN nm)) (hq.act (by omega)) (hr.act (by simp [wW, wN]; omega))
    simp only [z25, zaj, z57, Wr.assoc] at ka
    exact Sn.mono (Sn.up (zp4 (ka.mono (by omega : _ ≤ 8 * (4 + szE e + szC c + szL bo + szL el + szA ar) - 1)))) (by omega)
   case neg =>
   have h5 := Bool.eq_false_iff.2 h5
   simp only [h5, Bool.false_eq_true, if_false]
   by_cases h6 : (k == 6) = true
   case pos =>
    refine .inl ?_
    simp only [h6, if_true]
    rw [z6s (hr.le (by simp; omega))]
    simp only [Option.bind_some]
    rw [znb oc (hq.1.act (by omega)) (hr.act (by simp [wW]; omega))]
    simp only [Option.bind_some, z25, z57]
    rw [z6s (hr.act (by simp [wW]; omega))]
    simp only [Option.bind_some, z25, Wr.assoc]
   case neg =>
   have h6 := Bool.eq_false_iff.2 h6
   simp only [h6, Bool.false_eq_true, if_false]
   by_cases h7 : (k == 7) = true
   case pos =>
    refine .inl ?_
    simp only [h7, if_true]
    rw [z6s (hr.le (by simp; omega))]
    simp only [Option.bind_some]
    rw [zaz (hr.act (by simp [wW]; omega)) on]
    simp only [Option.bind_some, z25]
    rw [z6s (hr.act (by simp [wN, wW]; omega))]
    simp only [Option.bind_some, z25, Wr.assoc]
   case neg =>
    refine .inl ?_
    have h7 := Bool.eq_false_iff.2 h7
    simp only [h7, Bool.false_eq_true, if_false]
    simp only [zi6, Option.bind_some]
theorem z012 {a : z01} {l : List z03} (ho : okL l) (hq : Lq a (2 * szL l)) (hr : Room a (5 * szL l)) : z97 a l = some (act a (sL l a.f_blocks a.f_parens)) :=
 Sn.unf fun n => zil (fun s h => z011 _ s (Nat.le_refl _) (zem ho s h).1) n a hq hr
end Go.Proofs.YtokjbpmjdcbogaaGreatDoor.Abs.Wri
/- ast.Words, told in plain words. -/
namespace Go.Proofs.YtokjbpmjdcbogaaGreatDoor.Abs.Wri
open Go Go.RowKit
set_option linter.unusedVariables false
set_option linter.unusedSimpArgs false
def z7b {β : Type} (g : Nat → β → Wr) : Nat → List β → Wr
 | _, [] => Wr.nil
 | i, x :: r => g i x ++ z7b g (i + 1) r
def sumN {β : Type} (c : β → Nat) : List β → Nat
 | [] => 0
 | x :: r => c x + sumN c r
theorem zbx {β : Type} {g : Nat → β → Wr} {c : β → Nat} : ∀ {l : List β} {i : Nat}, (∀ i, ∀ x ∈ l, (g i x).ws.length ≤ c x) → (z7b g i l).ws.length ≤ sumN c l
 | [], i, h => by simp [z7b, Wr.nil]
 | x :: r, i, h => by
  have h1 := h i x List.mem_cons_self
  have h2 := zbx (l := r) (i := i + 1) fun i y hy => h i y (List.mem_cons_of_mem _ hy)
  simp only [z7b, sumN, Wr.ws_app, List.length_append]; omega
/-- No depth yet. -/
def At0 (a : z01) : Prop := a.f_blocks = 0 ∧ a.f_parens = 0
theorem At0.act {a : z01} {x : Wr} (h : At0 a) : At0 (act a x) := h
abbrev TP := Bool × Bool × Int × Int × List ByteArray
theorem zsi {β O : Type} {body : Int × TP → Option (Sum (Int × TP) (Sum O TP))} {g : Nat → β → Wr} {c : β → Nat} (a1 : List β) (hlen : a1.length ≤ 4611686018427387904)
  (hs : ∀ (i : Nat) x a, i < a1.length → idx a1 (i : Int) = some x → x ∈ a1 → At0 a → Room a (c x) → IntKind.i64.wrap ((i : Int) + 1) = ((i + 1 : Nat) : Int) → body ((i : Int), tp a) = some (.inl (((i + 1 : Nat) : Int), tp (act a (g i x)))))
  (he : ∀ a, body ((a1.length : Int), tp a) = some (.inr (.inr (tp a)))) (hl : ∀ i, ∀ x ∈ a1, (g i x).ws.length ≤ c x) :
  ∀ (l : List β) (i : Nat) (a : z01), a1.drop i = l → i ≤ a1.length → At0 a → Room a (sumN c l) → iter body ((i : Int), tp a) = some (.inr (tp (act a (z7b g i l)))) := by
 intro l
 induction l with
 | nil =>
  intro i a hd hi h0 hr
  have : i = a1.length := by have := List.drop_eq_nil_iff.1 hd; omega
  subst this
  rw [z6r (he a)]
  simp [z7b, Wr.nil, act, tp]
 | cons s r ih =>
  intro i a hd hi h0 hr
  have hlt : i < a1.length := by
   refine Nat.lt_of_not_le fun h => ?_
   rw [List.drop_of_length_le h] at hd; cases hd
  rw [List.drop_eq_getElem_cons hlt] at hd
  injection hd with h1 h2
  have hi2 : idx a1 (i : Int) = some s := by rw [zfg hlt, h1]
  have hw : IntKind.i64.wrap ((i : Int) + 1) = ((i + 1 : Nat) : Int) := by rw [w64 (by omega) (by omega)]; omega
  have hm : s ∈ a1 := by rw [← h1]; exact List.getElem_mem hlt
  simp only [sumN] at hr
  rw [zeh (hs i s a hlt hi2 hm h0 (hr.le (by omega)) hw), ih (i + 1) (act a (g i s)) h2 hlt h0.act (hr.act (by have := hl i s hm; omega))]
  simp only [z25, z7b]
/-! ### Processes -/
def wVar (_ : Nat) (v : ByteArray) : Wr := wW [(ByteArray.mk #[118, 97, 114])] ++ (wN v ++ wW [(ByteArray.mk #[59])])
def sP (p : z2h) : Wr := wW [(ByteArray.mk #[112, 114, 111, 99])] ++ (wN p.Name ++ (wW [(ByteArray.mk #[123])] ++ (z7b wVar 0 p.Vars ++ (sL p.Body 0 0 ++ wW [(ByteArray.mk #[125])]))))
def szP (p : z2h) : Nat := 1 + p.Vars.length + szL p.Body
def okP (p : z2h) : Prop := p.Name.size ≤ 4194304 ∧ (∀ v ∈ p.Vars, v.size ≤ 4194304) ∧ okL p.Body
theorem zak {β : Type} (k : Nat) : ∀ l : List β, sumN (fun _ => k) l = k * l.length
 | [] => by simp [sumN]
 | x :: r => by simp only [sumN, zak k r, List.length_cons, Nat.mul_succ]; omega
theorem zqr (l : List ByteArray) (i : Nat) : (z7b wVar i l).ws.length ≤ 3 * l.length := by
 rw [← zak]; exact zbx fun i x _ => by simp [wVar, wW, wN]
theorem zyn (p : z2h) : (sP p).ws.length ≤ 5 * szP p := by
 have h1 := zqr p.Vars 0
 have h2 := zfi p.Body 0 0
 unfold sP szP; simp [wW, wN]; omega
theorem z03u {a : z01} {p : z2h} (ho : okP p) (h0 : At0 a) (hs : szP p ≤ 1152921504606846976) (hr : Room a (5 * szP p)) : z79 a p = some (act a (sP p)) := by
 obtain ⟨o1, o2, o3⟩ := ho
 unfold szP at hr hs
 have h1 := zqr p.Vars 0
 have h2 := zfi p.Body 0 0
 have h3 := z7j p.Body
 unfold z79
 simp only [Option.bind_eq_bind]
 rw [z6s (hr.le (by simp; omega))]
 simp only [Option.bind_some]
 rw [zaz (hr.act (by simp [wW]; omega)) o1]
 simp only [Option.bind_some, z25]
 rw [z6s (hr.act (by simp [wW, wN]; omega))]
 simp only [Option.bind_some, z25]
 have hlp := zsi (body := z63 p) (g := wVar) (c := fun _ => 3) p.Vars (by omega)
  (fun i x a hi hx hm h0 hr hw => by
   unfold z63
   rw [if_pos (by simp; omega)]
   simp only [hx, Option.bind_eq_bind, Option.bind_some, hw]
   show ((z07 a _).bind _) = _
   rw [z6s (hr.le (by simp))]
   simp only [Option.bind_some]
   rw [zaz (hr.act (by simp [wW])) (o2 x hm)]
   simp only [Option.bind_some, z25]
   rw [z6s (hr.act (by simp [wW, wN]))]
   simp only [Option.bind_some, z25, Wr.assoc]
   rfl)
  (fun a => by unfold z63; rw [if_neg (by simp)])
  (fun i x _ => by simp [wVar, wW, wN]) p.Vars 0 (act a (wW [ByteArray.mk #[112, 114, 111, 99]] ++ wN p.Name ++ wW [ByteArray.mk #[123]])) rfl (by omega) h0.act (by rw [zak]; exact hr.act (by simp [wW, wN]; omega))
 have e0 : (((0 : Nat) : Int), tp (act a (wW [ByteArray.mk #[112, 114, 111, 99]] ++ wN p.Name ++ wW [ByteArray.mk #[123]]))) = ((0 : Int), (act a (wW [ByteArray.mk #[112, 114, 111, 99]] ++ wN p.Name ++ wW [ByteArray.mk #[123]])).f_form, (act a (wW [ByteArray.mk #[112, 114, 111, 99]] ++ wN p.Name ++ wW [ByteArray.mk #[123]])).f_deep, (act a (wW [ByteArray.mk #[112, 114, 111, 99]] ++ wN p.Name ++ wW [ByteArray.mk #[123]])).f_blocks, (act a (wW [ByteArray.mk #[112, 114, 111, 99]] ++ wN p.Name ++ wW [ByteArray.mk #[123]])).f_parens, (act a (wW [ByteArray.mk #[112, 114, 111, 99]] ++ wN p.Name ++ wW [ByteArray.mk #[123]])).f_out) := rfl
 rw [← e0, hlp]
 simp only [Option.bind_some, Sum.elim_inr, z25]
 show ((z97 (act a _) p.Body).bind _) = _
 have hq : Lq (act a (wW [ByteArray.mk #[112, 114, 111, 99]] ++ wN p.Name ++ wW [ByteArray.mk #[123]] ++ z7b wVar 0 p.Vars)) (2 * szL p.Body) := by
  refine ⟨⟨?_, ?_⟩, ?_, ?_⟩ <;> simp [h0.1, h0.2] <;> omega
 rw [z012 o3 hq (hr.act (by simp [wW, wN]; omega))]
 simp only [Option.bind_some, z25, zaj, z57, h0.1, h0.2]
 rw [z6s (hr.act (by simp [wW, wN]; omega))]
 simp only [Option.bind_some, z25, Wr.assoc]
 rfl
/-! ### Rules -/
def zk3 (_ : Nat) (m : z3s) : Wr := wI m.From ++ (wN m.Tag ++ (wI m.To ++ wW [(ByteArray.mk #[59])]))
def sR (r : z2g) : Wr := wW [(ByteArray.mk #[114, 117, 108, 101])] ++ (wN r.Chan ++ (wW [(ByteArray.mk #[123])] ++ (z7b zk3 0 r.Moves ++ wW [(ByteArray.mk #[125])])))
def szR (r : z2g) : Nat := 1 + r.Moves.length
def okR (r : z2g) : Prop := r.Chan.size ≤ 4194304 ∧ ∀ m ∈ r.Moves, in64 m.From ∧ m.Tag.size ≤ 4194304 ∧ in64 m.To
theorem znh (l : List z3s) (i : Nat) : (z7b zk3 i l).ws.length ≤ 4 * l.length := by
 rw [← zak]; exact zbx fun i x _ => by simp [zk3, wW, wN, wI]
theorem zyo (r : z2g) : (sR r).ws.length ≤ 5 * szR r := by
 have h1 := znh r.Moves 0
 unfold sR szR; simp [wW, wN]; omega
theorem z03v {a : z01} {r : z2g} (ho : okR r) (h0 : At0 a) (hs : szR r ≤ 1152921504606846976) (hr : Room a (5 * szR r)) : z78 a r = some (act a (sR r)) := by
 obtain ⟨o1, o2⟩ := ho
 unfold szR at hr hs
 have h1 := znh r.Moves 0
 unfold z78
 simp only [Option.bind_eq_bind]
 rw [z6s (hr.le (by simp; omega))]
 simp only [Option.bind_some]
 rw [zaz (hr.act (by simp [wW]; omega)) o1]
 simp only [Option.bind_some, z25]
 rw [z6s (hr.act (by simp [wW, wN]; omega))]
 simp only [Option.bind_some, z25]
 have hlp := zsi (body := z5h r) (g := zk3) (c := fun _ => 4) r.Moves (by omega)
  (fun i x a hi hx hm h0 hr hw => by
   unfold z5h
   rw [if_pos (by simp; omega)]
   simp only [hx, Option.bind_eq_bind, Option.bind_some, hw]
   show ((z44 a _).bind _) = _
   rw [zh3 (hr.le (by omega)) (o2 x hm).1.1 (o2 x hm).1.2]
   simp only [Option.bind_some]
   rw [zaz (hr.act (by simp [wI])) (o2 x hm).2.1]
   simp only [Option.bind_some, z25]
   rw [zh3 (hr.act (by simp [wI, wN])) (o2 x hm).2.2.1 (o2 x hm).2.2.2]
   simp only [Option.bind_some, z25]
   rw [z6s (hr.act (by simp [wI, wN]))]
   simp only [Option.bind_some, z25, Wr.assoc]
   rfl)
  (fun a => by unfold z5h; rw [if_neg (by simp)])
  (fun i x _ => by simp [zk3, wW, wN, wI]) r.Moves 0 (act a (wW [ByteArray.mk #[114, 117, 108, 101]] ++ wN r.Chan ++ wW [ByteArray.mk #[123]])) rfl (by omega) h0.act (by rw [zak]; exact hr.act (by simp [wW, wN]; omega))
 show (iter (z5h r) (((0 : Nat) : Int), tp (act a (wW [ByteArray.mk #[114, 117, 108, 101]] ++ wN r.Chan ++ wW [ByteArray.mk #[123]])))).bind _ = _
 rw [hlp]
 simp only [Option.bind_some, Sum.elim_inr, z25]
 show ((z07 (act a _) _).bind _) = _
 rw [z6s (hr.act (by simp [wW, wN]; omega))]
 simp only [Option.bind_some, z25, Wr.assoc]
 rfl
/-! ### Channels -/
def kindOk (k : Int) : Bool := decide (k ≥ 0) && decide (k < 3)
def zk2 (k : Int) : ByteArray := match k with
 | 0 => ByteArray.mk #[98, 108, 111, 99, 107] | 1 => ByteArray.mk #[100, 114, 111, 112] | _ => ByteArray.mk #[108, 111, 115, 115, 121]
theorem zxm {k : Int} (h : kindOk k = true) : idx [(ByteArray.mk #[98, 108, 111, 99, 107]), (ByteArray.mk #[100, 114, 111, 112]), (ByteArray.mk #[108, 111, 115, 115, 121])] k = some (zk2 k) := by
 unfold kindOk at h
 simp only [Bool.and_eq_true, decide_eq_true_eq] at h
 have : k = 0 ∨ k = 1 ∨ k = 2 := by omega
 rcases this with rfl | rfl | rfl <;> rfl
def wTag (i : Nat) (t : ByteArray) : Wr := if i = 0 then wN t else wW [(ByteArray.mk #[44])] ++ wN t
def sCh (c : z23) : Wr := wW [(ByteArray.mk #[99, 104, 97, 110])] ++ (wN c.Name ++ ((if kindOk c.Kind then wW [zk2 c.Kind] else wM false) ++ (wI c.Size ++ (wW [(ByteArray.mk #[102, 114, 111, 109])] ++ (wN c.From ++ (wW [(ByteArray.mk #[116, 111])] ++ (wN c.To ++ (wW [(ByteArray.mk #[123])] ++ (wM (!c.Tags.isEmpty) ++ (z7b wTag 0 c.Tags ++ wW [(ByteArray.mk #[125]), (ByteArray.mk #[59])]))))))))))
def szCh (c : z23) : Nat := 3 + c.Tags.length
def okCh (c : z23) : Prop := c.Name.size ≤ 4194304 ∧ c.From.size ≤ 4194304 ∧ c.To.size ≤ 4194304 ∧ in64 c.Size ∧ ∀ t ∈ c.Tags, t.size ≤ 4194304
theorem zvh (i : Nat) (t : ByteArray) : (wTag i t).ws.length ≤ 2 := by unfold wTag; split <;> simp [wN, wW]
theorem zqs (l : List ByteArray) (i : Nat) : (z7b wTag i l).ws.length ≤ 2 * l.length := by
 rw [← zak]; exact zbx fun i x _ => zvh i x
theorem zvi (c : z23) : (sCh c).ws.length ≤ 5 * szCh c := by
 have h1 := zqs c.Tags 0
 unfold sCh szCh; split <;> simp [wW, wN, wI, wM] <;> omega
theorem zvj (c : z23) {body : Int × TP → Option (Sum (Int × TP) (Sum z01 TP))} (hbd : body = z4q c ∨ body = z4r c) (o : ∀ t ∈ c.Tags, t.size ≤ 4194304) (hlen : c.Tags.length ≤ 4611686018427387904) (a : z01) (h0 : At0 a) (hr : Room a (2 * c.Tags.length)) :
  iter body (((0 : Nat) : Int), tp a) = some (.inr (tp (act a (z7b wTag 0 c.Tags)))) := by
 refine zsi (g := wTag) (c := fun _ => 2) c.Tags hlen (fun i x a hi hx hm h0 hr hw => ?_) (fun a => ?_) (fun i x _ => zvh i x) c.Tags 0 a rfl (by omega) h0 (by rw [zak]; exact hr)
 ·have hb : body ((i : Int), tp a) = ((if (decide ((i : Int) > 0)) then (z07 a [(ByteArray.mk #[44])] >>= fun v12 => z18 v12 x >>= fun v13 => some (v13.f_form, v13.f_deep, v13.f_blocks, v13.f_parens, v13.f_out))
    else (z18 a x >>= fun v14 => some (v14.f_form, v14.f_deep, v14.f_blocks, v14.f_parens, v14.f_out)) : Option TP) >>= fun j3 => some (.inl (((i + 1 : Nat) : Int), j3.1, j3.2.1, j3.2.2.1, j3.2.2.2.1, j3.2.2.2.2))) := by
   rcases hbd with rfl | rfl
   ·unfold z4q
    rw [if_pos (by simp; omega)]
    simp only [hx, Option.bind_eq_bind, Option.bind_some, hw]
    rfl
   ·unfold z4r
    rw [if_pos (by simp; omega)]
    simp only [hx, Option.bind_eq_bind, Option.bind_some, hw]
    rfl
  rw [hb]
  unfold wTag
  by_cases hi0 : i = 0
  ·subst hi0
   rw [if_neg (by simp), zaz (hr.le (by omega)) (o x hm)]
   rfl
  ·rw [if_pos (by simp; omega), z6s (hr.le (by simp))]
   simp only [Option.bind_eq_bind, Option.bind_some]
   rw [zaz (hr.act (by simp [wW])) (o x hm)]
   simp only [Option.bind_some, z25, if_neg hi0]
   rfl
 ·rcases hbd with rfl | rfl
  ·unfold z4q; rw [if_neg (by simp)]
  ·unfold z4r; rw [if_neg (by simp)]
end Go.Proofs.YtokjbpmjdcbogaaGreatDoor.Abs.Wri
/- ast.Words, told in plain words: channels, and all. -/
namespace Go.Proofs.YtokjbpmjdcbogaaGreatDoor.Abs.Wri
open Go Go.RowKit
set_option linter.unusedVariables false
set_option linter.unusedSimpArgs false
theorem zqt {c : z23} {body : Int × TP → Option (Sum (Int × TP) (Sum z01 TP))} (hbd : body = z4q c ∨ body = z4r c) (ho : okCh c) (hs : szCh c ≤ 1152921504606846976) {a : z01} {X : Wr} (h0 : At0 a) (hr : Room a (5 * szCh c)) (hX : X.ws.length ≤ 3) :
  (z44 (act a X) c.Size).bind (fun v4 => (z07 v4 [(ByteArray.mk #[102, 114, 111, 109])]).bind fun v5 => (z18 v5 c.From).bind fun v6 => (z07 v6 [(ByteArray.mk #[116, 111])]).bind fun v7 => (z18 v7 c.To).bind fun v8 => (z07 v8 [(ByteArray.mk #[123])]).bind fun v9 =>
   (z2m v9 (decide ((c.Tags.length : Int) > 0))).bind fun v10 => (iter body (0, v10.f_form, v10.f_deep, v10.f_blocks, v10.f_parens, v10.f_out)).bind (Sum.elim (fun _ => none) (fun j2 =>
    (z07 (z01.mk j2.2.2.2.2 j2.1 j2.2.1 j2.2.2.1 j2.2.2.2.1) [(ByteArray.mk #[125]), (ByteArray.mk #[59])]).bind fun v15 => some v15)))
  = some (act a (X ++ (wI c.Size ++ (wW [(ByteArray.mk #[102, 114, 111, 109])] ++ (wN c.From ++ (wW [(ByteArray.mk #[116, 111])] ++ (wN c.To ++ (wW [(ByteArray.mk #[123])] ++ (wM (!c.Tags.isEmpty) ++ (z7b wTag 0 c.Tags ++ wW [(ByteArray.mk #[125]), (ByteArray.mk #[59])])))))))))) := by
 obtain ⟨o1, o2, o3, o4, o5⟩ := ho
 unfold szCh at hr hs
 have h1 := zqs c.Tags 0
 rw [zh3 (hr.act (by omega)) o4.1 o4.2]
 simp only [Option.bind_some, z25]
 rw [z6s (hr.act (by simp [wI]; omega))]
 simp only [Option.bind_some, z25]
 rw [zaz (hr.act (by simp [wI, wW]; omega)) o2]
 simp only [Option.bind_some, z25]
 rw [z6s (hr.act (by simp [wI, wW, wN]; omega))]
 simp only [Option.bind_some, z25]
 rw [zaz (hr.act (by simp [wI, wW, wN]; omega)) o3]
 simp only [Option.bind_some, z25]
 rw [z6s (hr.act (by simp [wI, wW, wN]; omega))]
 simp only [Option.bind_some, z25]
 have he : (decide ((c.Tags.length : Int) > 0)) = !c.Tags.isEmpty := by cases c.Tags <;> simp
 rw [he, zi6]
 simp only [Option.bind_some, z25]
 have hlp := zvj c hbd o5 (by omega) (act a (X ++ wI c.Size ++ wW [ByteArray.mk #[102, 114, 111, 109]] ++ wN c.From ++ wW [ByteArray.mk #[116, 111]] ++ wN c.To ++ wW [ByteArray.mk #[123]] ++ wM (!c.Tags.isEmpty))) h0.act (hr.act (by simp [wI, wW, wN, wM]; omega))
 show (iter body (((0 : Nat) : Int), tp (act a (X ++ wI c.Size ++ wW [ByteArray.mk #[102, 114, 111, 109]] ++ wN c.From ++ wW [ByteArray.mk #[116, 111]] ++ wN c.To ++ wW [ByteArray.mk #[123]] ++ wM (!c.Tags.isEmpty))))).bind _ = _
 rw [hlp]
 simp only [Option.bind_some, Sum.elim_inr, z25]
 show ((z07 (act a _) _).bind _) = _
 rw [z6s (hr.act (by simp [wI, wW, wN, wM]; omega))]
 simp only [Option.bind_some, z25, Wr.assoc]
theorem z03w {a : z01} {c : z23} (ho : okCh c) (h0 : At0 a) (hs : szCh c ≤ 1152921504606846976) (hr : Room a (5 * szCh c)) : z62 a c = some (act a (sCh c)) := by
 have hr' := hr
 unfold szCh at hr'
 unfold z62
 simp only [Option.bind_eq_bind]
 rw [z6s (hr'.le (by simp; omega))]
 simp only [Option.bind_some]
 rw [zaz (hr'.act (by simp [wW]; omega)) ho.1]
 have hj : ((if decide (c.Kind < 0) = true then some true else some (decide (c.Kind ≥ 3))) : Option Bool) = some (!kindOk c.Kind) := by
  unfold kindOk
  by_cases h : c.Kind < 0
  ·have : ¬ (c.Kind ≥ 0) := by omega
   simp [h, this]
  ·have : c.Kind ≥ 0 := by omega
   simp only [h, this, decide_false, decide_true, Bool.false_eq_true, if_false, Bool.true_and]
   by_cases h6 : c.Kind < 3
   ·have : ¬ c.Kind ≥ 3 := by omega
    simp [h6, this]
   ·have : c.Kind ≥ 3 := by omega
    simp [h6, this]
 simp only [Option.bind_some, z25, hj]
 unfold sCh
 cases hok : kindOk c.Kind
 ·simp only [Bool.not_false, if_true, Bool.false_eq_true, if_false]
  rw [zi6]
  simp only [Option.bind_some, z25]
  refine (zqt (.inl rfl) ho hs h0 hr (X := wW [ByteArray.mk #[99, 104, 97, 110]] ++ wN c.Name ++ wM false) (by simp [wW, wN, wM])).trans ?_
  simp only [Wr.assoc]
 ·simp only [Bool.not_true, if_true, Bool.false_eq_true, if_false, zxm hok, Option.bind_some]
  rw [z6s (hr'.act (by simp [wW, wN]; omega))]
  simp only [Option.bind_some, z25]
  refine (zqt (.inr rfl) ho hs h0 hr (X := wW [ByteArray.mk #[99, 104, 97, 110]] ++ wN c.Name ++ wW [zk2 c.Kind]) (by simp [wW, wN])).trans ?_
  simp only [Wr.assoc]
/-! ### All -/
def sSys (s : z16) : Wr := z7b (fun _ => sCh) 0 s.Chans ++ (z7b (fun _ => sR) 0 s.Rules ++ z7b (fun _ => sP) 0 s.Procs)
def zjm (s : z16) : Nat := sumN szCh s.Chans + sumN szR s.Rules + sumN szP s.Procs
def zsc (s : z16) : Prop := (∀ c ∈ s.Chans, okCh c) ∧ (∀ c ∈ s.Rules, okR c) ∧ (∀ c ∈ s.Procs, okP c)
def endW (x : Wr) : List ByteArray × Int := if x.bad then ([], 5) else if x.dp then ([], 6) else if 2000 < x.ws.length then ([], 4) else (x.ws, 0)
theorem zan {β : Type} {c : β → Nat} : ∀ {l : List β} {x : β}, x ∈ l → c x ≤ sumN c l
 | y :: r, x, h => by
  rcases List.mem_cons.1 h with rfl | h
  ·simp only [sumN]; omega
  ·have := zan (c := c) h; simp only [sumN]; omega
theorem zam {β : Type} {c : β → Nat} (h : ∀ x, 1 ≤ c x) : ∀ (l : List β), l.length ≤ sumN c l
 | [] => by simp
 | x :: r => by have := zam h r; have := h x; simp only [sumN, List.length_cons]; omega
theorem zh5 {β : Type} (k : Nat) (c : β → Nat) : ∀ (l : List β), sumN (fun x => k * c x) l = k * sumN c l
 | [] => by simp [sumN]
 | x :: r => by simp only [sumN, zh5 k c r, Nat.mul_add]
theorem zux {s : z16} (ho : zsc s) (hs : zjm s ≤ 1000000000000) : zcl s = some (endW (sSys s)) := by
 obtain ⟨o1, o2, o3⟩ := ho
 unfold zjm at hs
 have g1 := zbx (g := fun _ => sCh) (c := fun x => 5 * szCh x) (l := s.Chans) (i := 0) fun i x _ => zvi x
 have g2 := zbx (g := fun _ => sR) (c := fun x => 5 * szR x) (l := s.Rules) (i := 0) fun i x _ => zyo x
 have g3 := zbx (g := fun _ => sP) (c := fun x => 5 * szP x) (l := s.Procs) (i := 0) fun i x _ => zyn x
 rw [zh5] at g1 g2 g3
 have n1 := zam (c := szCh) (fun x => by unfold szCh; omega) s.Chans
 have n2 := zam (c := szR) (fun x => by unfold szR; omega) s.Rules
 have n3 := zam (c := szP) (fun x => by unfold szP; omega) s.Procs
 let a0 : z01 := ⟨[], false, false, 0, 0⟩
 have h0 : At0 a0 := ⟨rfl, rfl⟩
 have r0 : Room a0 8796093022208 := by unfold Room; simp [a0]
 have w1 := zsi (body := z83 s) (g := fun _ => sCh) (c := fun x => 5 * szCh x) s.Chans (by omega)
  (fun i x a hi hx hm h0 hr hw => by
   unfold z83
   rw [if_pos (by simp; omega)]
   simp only [hx, Option.bind_eq_bind, Option.bind_some, hw]
   show ((z62 a _).bind _) = _
   have := zan (c := szCh) hm
   rw [z03w (o1 x hm) h0 (by omega) hr]
   rfl)
  (fun a => by unfold z83; rw [if_neg (by simp)])
  (fun i x _ => zvi x) s.Chans 0 a0 rfl (by omega) h0 (by rw [zh5]; exact r0.le (by omega))
 have w2 := zsi (body := z84 s) (g := fun _ => sR) (c := fun x => 5 * szR x) s.Rules (by omega)
  (fun i x a hi hx hm h0 hr hw => by
   unfold z84
   rw [if_pos (by simp; omega)]
   simp only [hx, Option.bind_eq_bind, Option.bind_some, hw]
   show ((z78 a _).bind _) = _
   have := zan (c := szR) hm
   rw [z03v (o2 x hm) h0 (by omega) hr]
   rfl)
  (fun a => by unfold z84; rw [if_neg (by simp)])
  (fun i x _ => zyo x) s.Rules 0 (act a0 (z7b (fun _ => sCh) 0 s.Chans)) rfl (by omega) h0.act (by rw [zh5]; exact r0.act (by omega))
 have w3 := zsi (body := z86 s) (g := fun _ => sP) (c := fun x => 5 * szP x) s.Procs (by omega)
  (fun i x a hi hx hm h0 hr hw => by
   unfold z86
   rw [if_pos (by simp; omega)]
   simp only [hx, Option.bind_eq_bind, Option.bind_some, hw]
   show ((z79 a _).bind _) = _
   have := zan (c := szP) hm
   rw [z03u (o3 x hm) h0 (by omega) hr]
   rfl)
  (fun a => by unfold z86; rw [if_neg (by simp)])
  (fun i x _ => zyn x) s.Procs 0 (act (act a0 (z7b (fun _ => sCh) 0 s.Chans)) (z7b (fun _ => sR) 0 s.Rules)) rfl (by omega) h0.act.act (by rw [zh5, z25]; exact r0.act (by simp only [Wr.ws_app, List.length_append]; omega))
 unfold zcl
 show (iter (z83 s) (((0 : Nat) : Int), tp a0) >>= _) = _
 rw [w1]
 simp only [Option.bind_eq_bind, Option.bind_some, Sum.elim_inr]
 show ((iter (z84 s) (((0 : Nat) : Int), tp (act a0 _))).bind _) = _
 rw [w2]
 simp only [Option.bind_some, Sum.elim_inr]
 show ((iter (z86 s) (((0 : Nat) : Int), tp (act (act a0 _) _))).bind _) = _
 rw [w3]
 simp only [Option.bind_some, Sum.elim_inr, z25, Wr.assoc]
 have ex : ∀ X : Wr, tp (act a0 X) = (X.bad, X.dp, 0, 0, X.ws) := fun X => by simp [tp, act, a0]
 rw [ex]
 show _ = some (endW (sSys s))
 unfold endW sSys
 generalize (z7b (fun _ => sCh) 0 s.Chans ++ (z7b (fun _ => sR) 0 s.Rules ++ z7b (fun _ => sP) 0 s.Procs)) = X
 obtain ⟨ws, bad, dp⟩ := X
 cases bad
 ·cases dp
  ·simp only [Bool.false_eq_true, if_false]
   by_cases h : 2000 < ws.length
   ·rw [if_pos h, if_pos (by simp; omega)]
   ·rw [if_neg h, if_neg (by simp; omega)]
  ·simp
 ·simp
end Go.Proofs.YtokjbpmjdcbogaaGreatDoor.Abs.Wri
/- No word is long. -/
namespace Go.Proofs.YtokjbpmjdcbogaaGreatDoor.Abs.Wri
open Go Go.RowKit
set_option linter.unusedVariables false
set_option linter.unusedSimpArgs false
def Sm (x : Wr) : Prop := ∀ w ∈ x.ws, w.size ≤ 4194304
theorem Sm.app {x y : Wr} (h : Sm x) (k : Sm y) : Sm (x ++ y) := fun w hw => by
 rcases List.mem_append.1 hw with hw | hw
 ·exact h w hw
 ·exact k w hw
theorem zqu : Sm Wr.nil := fun w hw => by cases hw
theorem sm_M (b : Bool) : Sm (wM b) := fun w hw => by cases hw
theorem sm_D (q : Int) : Sm (wD q) := fun w hw => by cases hw
theorem sm_N {s : ByteArray} (h : s.size ≤ 4194304) : Sm (wN s) := fun w hw => by
 simp only [wN, List.mem_singleton] at hw; rw [hw]; exact h
theorem sm_I {n : Int} (h : in64 n) : Sm (wI n) := fun w hw => by
 simp only [wI, List.mem_singleton] at hw
 rw [hw]
 have := Lib.itoa_length_le n h.1 h.2
 have e : (zec n).size = (Lib.itoa n).length := by rw [← z5r]; rfl
 omega
theorem sm_1 {s : ByteArray} (h : s.size ≤ 4194304) : Sm (wW [s]) := fun w hw => by
 simp only [wW, List.mem_singleton] at hw; rw [hw]; exact h
theorem sm_2 {s t : ByteArray} (h : s.size ≤ 4194304) (k : t.size ≤ 4194304) : Sm (wW [s, t]) := fun w hw => by
 simp only [wW, List.mem_cons, List.not_mem_nil, or_false] at hw
 rcases hw with rfl | rfl
 ·exact h
 ·exact k
theorem zxn (k : Int) : (zg4 k).size ≤ 4194304 := by unfold zg4; split <;> decide
theorem z03x (k : Int) : (opW k).size ≤ 4194304 := by unfold opW; split <;> decide
theorem zxo (k : Int) : (zk2 k).size ≤ 4194304 := by unfold zk2; split <;> decide
theorem zlr {e : z04} (hn : in64 e.Num) (hs : e.Name.size ≤ 4194304) : Sm (zed e) := by
 unfold zed
 refine (sm_M _).app ?_
 split
 ·exact sm_I hn
 ·exact (sm_M _).app (sm_N hs)
theorem zvk {m : Bool} {f : Int → Wr} (h : ∀ q, Sm (f q)) (p : Int) : Sm (inP m f p) := by
 unfold inP
 split
 ·exact (sm_1 (by decide)).app ((sm_D _).app ((h _).app (sm_1 (by decide))))
 ·exact h p
theorem sm_E : ∀ (e : z04), okE e → ∀ p, Sm (sE e p)
 | ⟨k, n, s, []⟩, h, p => by
  simp only [okE] at h
  simp only [sE]
  exact zlr h.1 h.2.1
 | ⟨k, n, s, [x]⟩, h, p => by
  simp only [okE, okEs] at h
  simp only [sE]
  split
  ·exact (sm_1 (by decide)).app ((sm_D _).app (zvk (sm_E x h.2.2.1) _))
  ·exact zlr h.1 h.2.1
 | ⟨k, n, s, [l, r]⟩, h, p => by
  simp only [okE, okEs] at h
  simp only [sE]
  split
  ·exact (zvk (sm_E l h.2.2.1) _).app ((sm_1 (zxn _)).app (zvk (sm_E r h.2.2.2.1) _))
  ·exact zlr h.1 h.2.1
 | ⟨k, n, s, a :: b :: c :: l⟩, h, p => by
  simp only [okE] at h
  simp only [sE]
  exact zlr h.1 h.2.1
theorem sm_C {c : z31} (h : okC c) (p : Int) : Sm (sC c p) := by
 unfold sC
 refine (sm_1 (by decide)).app ((sm_E _ h.1 p).app (Sm.app ?_ ((sm_E _ h.2 p).app (sm_1 (by decide)))))
 split
 ·exact sm_1 (z03x _)
 ·exact sm_M _
theorem zvl {f : Int → Wr} (h : ∀ q, Sm (f q)) (b : Int) : Sm (inB f b) := (sm_1 (by decide)).app ((sm_D _).app ((h _).app (sm_1 (by decide))))
mutual
theorem sm_S : ∀ (s : z03), okS s → ∀ b p, Sm (sS s b p)
 | .mk k n t e c bo el ar, h, b, p => by
  simp only [okS] at h
  obtain ⟨on, ot, oe, oc, ob, oel, oar⟩ := h
  have hB : Sm (inB (fun q => sL bo q p) b) := zvl (fun q => sm_L bo ob q p) b
  have hL : Sm (inB (fun q => sL el q p) b) := zvl (fun q => sm_L el oel q p) b
  have hA := sm_A ar oar b p
  have hE := sm_E e oe p
  have hC := sm_C oc p
  simp only [sS]
  split
  ·exact (sm_N on).app ((sm_1 (by decide)).app (hE.app (sm_1 (by decide))))
  ·split
   ·refine (sm_1 (by decide)).app (hC.app (hB.app ?_))
    split
    ·exact zqu
    ·exact (sm_1 (by decide)).app hL
   ·split
    ·exact (sm_1 (by decide)).app (hC.app hB)
    ·split
     ·exact (sm_1 (by decide)).app ((sm_N on).app ((sm_1 (by decide)).app ((sm_N ot).app ((sm_1 (by decide)).app (hE.app (sm_2 (by decide) (by decide)))))))
     ·split
      ·exact (sm_1 (by decide)).app ((sm_N on).app ((sm_M _).app ((sm_1 (by decide)).app (hA.app (sm_1 (by decide))))))
      ·split
       ·exact (sm_1 (by decide)).app (hC.app (sm_1 (by decide)))
       ·split
        ·exact (sm_1 (by decide)).app ((sm_N on).app (sm_1 (by decide)))
        ·exact sm_M _
theorem sm_L : ∀ (l : List z03), okL l → ∀ b p, Sm (sL l b p)
 | [], h, b, p => by simp only [sL]; exact zqu
 | s :: r, h, b, p => by
  simp only [okL] at h
  simp only [sL]
  exact (sm_S s h.1 b p).app (sm_L r h.2 b p)
theorem sm_A : ∀ (l : List z0m), okA l → ∀ b p, Sm (sA l b p)
 | [], h, b, p => by simp only [sA]; exact zqu
 | .mk t v bo :: r, h, b, p => by
  simp only [okA] at h
  have hB : Sm (inB (fun q => sL bo q p) b) := zvl (fun q => sm_L bo h.2.2.1 q p) b
  simp only [sA]
  exact (sm_N h.1).app ((sm_1 (by decide)).app ((sm_N h.2.1).app ((sm_1 (by decide)).app (hB.app (sm_A r h.2.2.2 b p)))))
end
theorem zgb {β : Type} {g : Nat → β → Wr} : ∀ {l : List β} {i : Nat}, (∀ i, ∀ x ∈ l, Sm (g i x)) → Sm (z7b g i l)
 | [], i, h => zqu
 | x :: r, i, h => (h i x List.mem_cons_self).app (zgb fun i y hy => h i y (List.mem_cons_of_mem _ hy))
theorem z03y {s : z16} (h : zsc s) : Sm (sSys s) := by
 obtain ⟨h1, h2, h3⟩ := h
 refine (zgb fun i c hc => ?_).app ((zgb fun i r hr => ?_).app (zgb fun i p hp => ?_))
 ·obtain ⟨o1, o2, o3, o4, o5⟩ := h1 c hc
  unfold sCh
  refine (sm_1 (by decide)).app ((sm_N o1).app (Sm.app ?_ ((sm_I o4).app ((sm_1 (by decide)).app ((sm_N o2).app ((sm_1 (by decide)).app ((sm_N o3).app ((sm_1 (by decide)).app ((sm_M _).app ((zgb fun i t ht => ?_).app (sm_2 (by decide) (by decide))))))))))))
  ·split
   ·exact sm_1 (zxo _)
   ·exact sm_M _
  ·unfold wTag
   split
   ·exact sm_N (o5 t ht)
   ·exact (sm_1 (by decide)).app (sm_N (o5 t ht))
 ·obtain ⟨o1, o2⟩ := h2 r hr
  unfold sR
  refine (sm_1 (by decide)).app ((sm_N o1).app ((sm_1 (by decide)).app ((zgb fun i m hm => ?_).app (sm_1 (by decide)))))
  exact (sm_I (o2 m hm).1).app ((sm_N (o2 m hm).2.1).app ((sm_I (o2 m hm).2.2).app (sm_1 (by decide))))
 ·obtain ⟨o1, o2, o3⟩ := h3 p hp
  unfold sP
  refine (sm_1 (by decide)).app ((sm_N o1).app ((sm_1 (by decide)).app ((zgb fun i v hv => ?_).app ((sm_L _ o3 0 0).app (sm_1 (by decide))))))
  exact (sm_1 (by decide)).app ((sm_N (o2 v hv)).app (sm_1 (by decide)))
theorem zqv : ∀ {l : List ByteArray}, (∀ w ∈ l, w.size ≤ 4194304) → (z7v l).length ≤ 4194305 * l.length
 | [], h => by simp [z7v]
 | x :: r, h => by
  have h1 := zqv (l := r) fun w hw => h w (List.mem_cons_of_mem _ hw)
  have h2 := h x List.mem_cons_self
  have e : (z7v (x :: r)).length = x.size + 1 + (z7v r).length := by
   simp only [z7v, List.flatMap_cons, List.length_append, List.length_cons, List.length_nil, z5r]
  rw [e, List.length_cons, Nat.mul_succ]; omega
/-- The text of what is told fits. -/
theorem zvm {s : z16} (h : zsc s) : (z7v (endW (sSys s)).1).length ≤ 140737488355328 := by
 unfold endW
 split
 ·simp [z7v]
 ·split
  ·simp [z7v]
  ·split
   ·simp [z7v]
   ·rename_i h2
    have := zqv (z03y h)
    have : 4194305 * (sSys s).ws.length ≤ 4194305 * 2000 := Nat.mul_le_mul_left _ (by omega)
    show (z7v (sSys s).ws).length ≤ _
    omega
theorem z02t {s : z16} (ho : zsc s) (hs : zjm s ≤ 1000000000000) : zgp s = some (zof (endW (sSys s)).1, (endW (sSys s)).2) := by
 unfold zgp
 rw [zux ho hs]
 simp only [Option.bind_eq_bind, Option.bind_some]
 rw [if_pos (zvm ho)]
end Go.Proofs.YtokjbpmjdcbogaaGreatDoor.Abs.Wri
/- The statements' own systems, turned to the program's. -/
namespace Go.Proofs.YtokjbpmjdcbogaaGreatDoor.Abs.Wri
open Go Go.RowKit
set_option linter.unusedVariables false
set_option linter.unusedSimpArgs false
theorem z013 {β γ O : Type} {body : Int × List γ → Option (Sum (Int × List γ) (Sum O (List γ)))} {n H : Nat} (f : β → γ) (a1 : List β) (hlen : a1.length ≤ 400000000000)
  (hs : ∀ (i : Nat) x acc, i < a1.length → idx a1 (i : Int) = some x → x ∈ a1 → acc.length = i → IntKind.i64.wrap ((i : Int) + 1) = ((i + 1 : Nat) : Int) → Sn n H (body ((i : Int), acc)) (.inl (((i + 1 : Nat) : Int), acc ++ [f x])))
  (he : ∀ acc, body ((a1.length : Int), acc) = some (.inr (.inr acc))) :
  ∀ (l : List β) (i : Nat) (acc : List γ), a1.drop i = l → i ≤ a1.length → acc.length = i → Sn n H (iter body ((i : Int), acc)) (.inr (acc ++ l.map f)) := by
 intro l
 induction l with
 | nil =>
  intro i acc hd hi ha
  have : i = a1.length := by have := List.drop_eq_nil_iff.1 hd; omega
  subst this
  exact .inl (by rw [z6r (he acc)]; simp)
 | cons s r ih =>
  intro i acc hd hi ha
  have hlt : i < a1.length := by
   refine Nat.lt_of_not_le fun h => ?_
   rw [List.drop_of_length_le h] at hd; cases hd
  rw [List.drop_eq_getElem_cons hlt] at hd
  injection hd with h1 h2
  have hi2 : idx a1 (i : Int) = some s := by rw [zfg hlt, h1]
  have hw : IntKind.i64.wrap ((i : Int) + 1) = ((i + 1 : Nat) : Int) := by rw [w64 (by omega) (by omega)]; omega
  have hm : s ∈ a1 := by rw [← h1]; exact List.getElem_mem hlt
  have h3 := hs i s acc hlt hi2 hm ha hw
  have h4 := ih (i + 1) (acc ++ [f s]) h2 hlt (by simp; omega)
  rw [zbl]
  refine Sn.bind h3 ?_
  simpa using h4
theorem zin {β γ O : Type} {body : Int × List γ → Option (Sum (Int × List γ) (Sum O (List γ)))} {n H : Nat} (f : β → γ) (a1 : List β) (hlen : a1.length ≤ 400000000000)
  (hs : ∀ (i : Nat) x acc, i < a1.length → idx a1 (i : Int) = some x → x ∈ a1 → acc.length = i → IntKind.i64.wrap ((i : Int) + 1) = ((i + 1 : Nat) : Int) → Sn n H (body ((i : Int), acc)) (.inl (((i + 1 : Nat) : Int), acc ++ [f x])))
  (he : ∀ acc, body ((a1.length : Int), acc) = some (.inr (.inr acc))) : Sn n H (iter body (0, [])) (.inr (a1.map f)) := by
 have := z013 f a1 hlen hs he a1 0 [] rfl (by omega) rfl
 simpa using this
theorem zh6 {β γ O : Type} {body : Int × List γ → Option (Sum (Int × List γ) (Sum O (List γ)))} (f : β → γ) (a1 : List β) (hlen : a1.length ≤ 400000000000)
  (hs : ∀ (i : Nat) x acc, i < a1.length → idx a1 (i : Int) = some x → x ∈ a1 → acc.length = i → IntKind.i64.wrap ((i : Int) + 1) = ((i + 1 : Nat) : Int) → body ((i : Int), acc) = some (.inl (((i + 1 : Nat) : Int), acc ++ [f x])))
  (he : ∀ acc, body ((a1.length : Int), acc) = some (.inr (.inr acc))) : iter body (0, []) = some (.inr (a1.map f)) := by
 rcases zin (n := 0) (H := 0) f a1 hlen (fun i x acc h1 h2 h3 h4 h5 => .inl (hs i x acc h1 h2 h3 h4 h5)) he with h | ⟨_, h⟩
 ·exact h
 ·omega
/-! ### Expressions -/
mutual
def cE : z1m → z04
 | ⟨k, n, s, l⟩ => ⟨k, n, s, cEs l⟩
def cEs : List z1m → List z04
 | [] => []
 | e :: r => cE e :: cEs r
end
theorem zvn : ∀ l, cEs l = l.map cE
 | [] => rfl
 | e :: r => by simp only [cEs, List.map_cons, zvn r]
theorem zp5 (e : z04) : 1 ≤ szE e := by cases e; simp only [szE]; omega
theorem zqw : ∀ {l : List z1m} {x : z1m}, x ∈ l → szE (cE x) ≤ szEs (cEs l)
 | y :: r, x, h => by
  rcases List.mem_cons.1 h with rfl | h
  ·simp only [cEs, szEs]; omega
  ·have := zqw h; simp only [cEs, szEs]; omega
theorem zqx : ∀ l : List z1m, l.length ≤ szEs (cEs l)
 | [] => by simp
 | e :: r => by have := zqx r; have := zp5 (cE e); simp only [cEs, szEs, List.length_cons]; omega
theorem cvE : ∀ (N : Nat) (e : z1m), szE (cE e) ≤ N → N ≤ 400000000000 → ∀ n, Sn n (szE (cE e)) (z8x n e) (cE e) := by
 intro N
 induction N with
 | zero => intro e he; have := zp5 (cE e); omega
 | succ N ih =>
  intro e he hN n
  obtain ⟨k, m, s, l⟩ := e
  simp only [cE, szE] at he ⊢
  cases n with
  | zero => exact .inr ⟨rfl, by omega⟩
  | succ n =>
   have hl := zqx l
   have h := zin (n := n) (H := szEs (cEs l)) (body := za9 (z8x n) ⟨k, m, s, l⟩) cE l (by omega)
    (fun i x acc hi hx hm ha hw => by
     unfold za9
     rw [if_pos (by simpa using hi)]
     simp only [hx, Option.bind_eq_bind, Option.bind_some, hw]
     have hz := zqw hm
     refine Sn.bind (f := _) ((ih x (by omega) (by omega) n).mono hz) (.inl ?_)
     rw [z7u (by simp; omega)]
     rfl)
    (fun acc => by unfold za9; rw [if_neg (by simp)])
   have t2 := (Sn.bind (f := Sum.elim (fun _ => none) (fun j1 => some (z04.mk k m s j1))) h (.inl (by rw [← zvn]; rfl : _ = some (z04.mk k m s (cEs l))))).up
   exact t2.mono (by omega)
theorem zp6 {e : z1m} (h : szE (cE e) ≤ 400000000000) : zgl e = some (cE e) := Sn.unf fun n => cvE _ e (Nat.le_refl _) h n
def cC (c : z7t) : z31 := ⟨c.Op, cE c.L, cE c.R⟩
theorem z014 {c : z7t} (h : szC (cC c) ≤ 400000000000) : zgm c = some (cC c) := by
 unfold szC cC at h
 simp only at h
 unfold zgm
 rw [zp6 (e := c.L) (by omega), zp6 (e := c.R) (by omega)]
 rfl
/-! ### Statements -/
mutual
def cS : z0t → z03
 | .mk k n t e c b l a => .mk k n t (cE e) (cC c) (cL b) (cL l) (cA a)
def cL : List z0t → List z03
 | [] => []
 | s :: r => cS s :: cL r
def cA : List z4p → List z0m
 | [] => []
 | .mk t v b :: r => .mk t v (cL b) :: cA r
end
def cArm (x : z4p) : z0m := .mk x.Tag x.Var (cL x.Body)
theorem zqy : ∀ l, cL l = l.map cS
 | [] => rfl
 | e :: r => by simp only [cL, List.map_cons, zqy r]
theorem zni : ∀ l, cA l = l.map cArm
 | [] => rfl
 | .mk t v b :: r => by simp only [cA, List.map_cons, zni r]; rfl
theorem zyp : ∀ {l : List z0t} {x : z0t}, x ∈ l → szS (cS x) + 1 ≤ szL (cL l)
 | y :: r, x, h => by
  have := z7j (cL r)
  rcases List.mem_cons.1 h with rfl | h
  ·simp only [cL, szL]; omega
  ·have := zyp h; simp only [cL, szL]; omega
theorem zyq : ∀ {l : List z4p} {x : z4p}, x ∈ l → szL (cL x.Body) ≤ szA (cA l)
 | .mk t v b :: r, x, h => by
  rcases List.mem_cons.1 h with rfl | h
  ·simp only [cA, szA]; show szL (cL b) ≤ _; omega
  ·have := zyq h; simp only [cA, szA]; omega
theorem z03z : ∀ l : List z0t, l.length ≤ szL (cL l) := fun l => by
 have := zlp (cL l)
 rw [zqy, List.length_map] at this
 rw [zqy]; exact this
theorem zyr : ∀ l : List z4p, l.length ≤ szA (cA l) := fun l => by
 have := zld (cA l)
 rw [zni, List.length_map] at this
 rw [zni]; exact this
theorem cvL : ∀ (N : Nat) (l : List z0t), szL (cL l) ≤ N → N ≤ 400000000000 → ∀ n, Sn n (szL (cL l)) (z6u n l) (cL l) := by
 intro N
 induction N with
 | zero => intro l hl; have := z7j (cL l); omega
 | succ N ih =>
  intro l hl hN n
  cases n with
  | zero => exact .inr ⟨rfl, z7j _⟩
  | succ n =>
   have hll := z03z l
   have hp := z7j (cL l)
   have h := zin (n := n) (H := szL (cL l) - 1) (body := z9m (z6u n) l) cS l (by omega)
    (fun i x acc hi hx hm ha hw => by
     obtain ⟨k, nm, tg, e, c, bo, el, ar⟩ := x
     have hz := zyp hm
     simp only [cS, szS] at hz
     have p1 := z7j (cL bo)
     have p2 := z7j (cL el)
     have p3 := zga (cA ar)
     unfold z9m
     rw [if_pos (by simpa using hi)]
     simp only [hx, Option.bind_eq_bind, Option.bind_some, hw]
     dsimp only [z0t.Kind, z0t.Name, z0t.Tag, z0t.E, z0t.C, z0t.Body, z0t.Else, z0t.Arms]
     rw [zp6 (e := e) (by omega), z014 (c := c) (by omega)]
     simp only [Option.bind_some]
     have har := zin (n := n) (H := szL (cL l) - 1) (body := z9l (z6u n) (.mk k nm tg e c bo el ar)) cArm ar (by have := zyr ar; omega)
      (fun i x acc hi hx hm ha hw => by
       unfold z9l
       rw [if_pos (by show decide ((i : Int) < (ar.length : Int)) = true; simpa using hi)]
       dsimp only [z0t.Arms]
       simp only [hx, Option.bind_eq_bind, Option.bind_some, hw]
       have hz := zyq hm
       refine Sn.bind (f := _) ((ih x.Body (by omega) (by omega) n).mono (by omega)) (.inl ?_)
       have := zyr ar
       rw [z7u (by simp; omega)]
       rfl)
      (fun acc => by unfold z9l; rw [if_neg (by simp [z0t.Arms])])
     have kb := (ih bo (by omega) (by omega) n).mono (by omega : _ ≤ szL (cL l) - 1)
     have ke := (ih el (by omega) (by omega) n).mono (by omega : _ ≤ szL (cL l) - 1)
     have fin : ∀ v9, Sn n (szL (cL l) - 1) ((app 288 acc [v9]).bind fun v9 => some (Sum.inl (((i + 1 : Nat) : Int), v9)) : Option (Sum (Int × List z03) (Sum (List z03) (List z03)))) (.inl (((i + 1 : Nat) : Int), acc ++ [v9])) := fun v9 => .inl (by rw [z7u (by simp; omega)]; rfl)
     refine Sn.bind (f := _) kb (Sn.bind (f := _) ke (Sn.bind (f := _) har ?_))
     have := fin (.mk k nm tg (cE e) (cC c) (cL bo) (cL el) (ar.map cArm))
     rw [← zni] at this
     simp only [cS]
     rw [← zni]
     exact this)
    (fun acc => by unfold z9m; rw [if_neg (by simp)])
   have t2 := (Sn.bind (f := Sum.elim (fun _ => none) (fun j1 => some j1)) h (.inl (by rw [← zqy]; rfl : _ = some (cL l)))).up
   exact t2.mono (by omega)
theorem zxp {l : List z0t} (h : szL (cL l) ≤ 400000000000) : zj8 l = some (cL l) := Sn.unf fun n => cvL _ l (Nat.le_refl _) h n
end Go.Proofs.YtokjbpmjdcbogaaGreatDoor.Abs.Wri
/- The statements' own systems, turned to the program's; the text that each Ast law asks for. -/
namespace Go.Proofs.YtokjbpmjdcbogaaGreatDoor.Abs.Wri
open Go Go.RowKit
set_option linter.unusedVariables false
set_option linter.unusedSimpArgs false
def cCh (c : z9x) : z23 := ⟨c.Name, c.Kind, c.Size, c.From, c.To, c.Tags⟩
def cMo (m : z96) : z3s := ⟨m.From, m.Tag, m.To⟩
def cRu (r : z9y) : z2g := ⟨r.Chan, r.Moves.map cMo⟩
def cPr (p : z9z) : z2h := ⟨p.Name, p.Vars, cL p.Body⟩
def cSys (s : z43) : z16 := ⟨s.Chans.map cCh, s.Rules.map cRu, s.Procs.map cPr⟩
theorem zh0 {β γ : Type} (c : γ → Nat) (f : β → γ) : ∀ l : List β, sumN c (l.map f) = sumN (fun x => c (f x)) l
 | [] => rfl
 | x :: r => by simp only [List.map_cons, sumN, zh0 c f r]
theorem z02s {s : z43} (h : zjm (cSys s) ≤ 400000000000) : zcg s = some (cSys s) := by
 unfold zjm cSys at h
 simp only [zh0] at h
 have n1 := zam (c := fun x => szCh (cCh x)) (fun x => by unfold szCh; omega) s.Chans
 have n2 := zam (c := fun x => szR (cRu x)) (fun x => by unfold szR; omega) s.Rules
 have n3 := zam (c := fun x => szP (cPr x)) (fun x => by unfold szP; omega) s.Procs
 unfold zcg
 rw [zh6 (body := z8d s) cCh s.Chans (by omega) (fun i x acc hi hx hm ha hw => by
   unfold z8d
   rw [if_pos (by simpa using hi)]
   simp only [hx, Option.bind_eq_bind, Option.bind_some, hw]
   have hz := zan (c := fun x => szCh (cCh x)) hm
   have hz2 : szCh (cCh x) = 3 + x.Tags.length := rfl
   rw [z7u (by simp; omega)]
   simp only [Option.bind_some, List.nil_append]
   rw [z7u (by simp; omega)]
   rfl) (fun acc => by unfold z8d; rw [if_neg (by simp)])]
 simp only [Option.bind_eq_bind, Option.bind_some, Sum.elim_inr]
 rw [zh6 (body := z8f s) cRu s.Rules (by omega) (fun i x acc hi hx hm ha hw => by
   unfold z8f
   rw [if_pos (by simpa using hi)]
   simp only [hx, Option.bind_eq_bind, Option.bind_some, hw]
   have hz := zan (c := fun x => szR (cRu x)) hm
   have hz2 : szR (cRu x) = 1 + (x.Moves.map cMo).length := rfl
   rw [List.length_map] at hz2
   rw [zh6 (body := z8e s ((i : Int), acc)) cMo x.Moves (by omega) (fun j y ac hj hy hym hya hw => by
    unfold z8e
    simp only [hx, Option.bind_eq_bind, Option.bind_some]
    rw [if_pos (by simpa using hj)]
    simp only [hy, Option.bind_eq_bind, Option.bind_some, hw]
    rw [z7u (by simp; omega)]
    rfl) (fun ac => by unfold z8e; simp only [hx, Option.bind_eq_bind, Option.bind_some]; rw [if_neg (by simp)])]
   simp only [Option.bind_some, Sum.elim_inr]
   rw [z7u (by simp; omega)]
   rfl) (fun acc => by unfold z8f; rw [if_neg (by simp)])]
 simp only [Option.bind_some, Sum.elim_inr]
 rw [zh6 (body := z8g s) cPr s.Procs (by omega) (fun i x acc hi hx hm ha hw => by
   unfold z8g
   rw [if_pos (by simpa using hi)]
   simp only [hx, Option.bind_eq_bind, Option.bind_some, hw]
   have hz := zan (c := fun x => szP (cPr x)) hm
   have hz2 : szP (cPr x) = 1 + x.Vars.length + szL (cL x.Body) := rfl
   rw [z7u (by simp; omega)]
   simp only [Option.bind_some, List.nil_append]
   rw [zxp (by omega)]
   simp only [Option.bind_some]
   rw [z7u (by simp; omega)]
   rfl) (fun acc => by unfold z8g; rw [if_neg (by simp)])]
 rfl
/-! ### One letter is a name -/
end Go.Proofs.YtokjbpmjdcbogaaGreatDoor.Abs.Wri
/- The reference's Lex, as it is printed, comes to what lexing is, of all texts of at most 4,194,304 bytes; its name is the program's. -/
namespace Go.Proofs.YtokjbpmjdcbogaaGreatDoor.Abs.Wri
open Go Go.RowKit
set_option linter.unusedVariables false
set_option linter.unusedSimpArgs false
/-! ### Loops over a list -/
theorem zwy {i : Nat} (h : i < 4611686018427387904) : IntKind.i64.wrap ((i : Int) + 1) = ((i + 1 : Nat) : Int) := by rw [w64 (by omega) (by omega)]; omega
/-- A loop that ends at the first that isn't. -/
theorem zxq {β O : Type} {body : Int → Option (Sum Int (Sum O Unit))} {n H : Nat} (l : List β) (p : β → Bool) (r : O) (hlen : l.length ≤ 4611686018427387904)
  (hs : ∀ (i : Nat) (x : β), l[i]? = some x → idx l (i : Int) = some x → x ∈ l → i < l.length → IntKind.i64.wrap ((i : Int) + 1) = ((i + 1 : Nat) : Int) → Sn n H (body (i : Int)) (if p x then .inl ((i + 1 : Nat) : Int) else .inr (.inl r)))
  (he : body (l.length : Int) = some (.inr (.inr ()))) : ∀ (m : List β) (i : Nat), l.drop i = m → i ≤ l.length → Sn n H (iter body (i : Int)) (if m.all p then .inr () else .inl r) := by
 intro m
 induction m with
 | nil =>
  intro i hd hi
  have : i = l.length := by have := List.drop_eq_nil_iff.1 hd; omega
  subst this
  exact .inl (by rw [z6r he]; rfl)
 | cons x m ih =>
  intro i hd hi
  have hlt : i < l.length := by
   refine Nat.lt_of_not_le fun h => ?_
   rw [List.drop_of_length_le h] at hd; cases hd
  rw [List.drop_eq_getElem_cons hlt] at hd
  injection hd with h1 h2
  have h3 := hs i x (by rw [← h1]; exact List.getElem?_eq_getElem hlt) (by rw [zfg hlt, h1]) (by rw [← h1]; exact List.getElem_mem hlt) hlt (zwy (by omega))
  rw [zbl]
  refine Sn.bind (f := _) h3 ?_
  cases hp : p x with
  | true =>
   have h4 := ih (i + 1) h2 hlt
   simp only [List.all_cons, hp, Bool.true_and, if_true]
   exact h4
  | false =>
   simp only [List.all_cons, hp, Bool.false_and, Bool.false_eq_true, if_false]
   exact .inl rfl
theorem zup {β O : Type} {body : Int → Option (Sum Int (Sum O Unit))} {n H : Nat} (l : List β) (p : β → Bool) (r : O) (hlen : l.length ≤ 4611686018427387904)
  (hs : ∀ (i : Nat) (x : β), l[i]? = some x → idx l (i : Int) = some x → x ∈ l → i < l.length → IntKind.i64.wrap ((i : Int) + 1) = ((i + 1 : Nat) : Int) → Sn n H (body (i : Int)) (if p x then .inl ((i + 1 : Nat) : Int) else .inr (.inl r)))
  (he : body (l.length : Int) = some (.inr (.inr ()))) : Sn n H (iter body 0) (if l.all p then .inr () else .inl r) := zxq l p r hlen hs he l 0 rfl (by omega)
/-! ### Letters, digits, reserved words -/
/-! ### sign -/
/-! ### Lex -/
end Go.Proofs.YtokjbpmjdcbogaaGreatDoor.Abs.Wri
/- Of the reference: what may be is what the writer finds no fault with. -/
namespace Go.Proofs.YtokjbpmjdcbogaaGreatDoor.Abs.Wri
open Go Go.RowKit
set_option linter.unusedVariables false
set_option linter.unusedSimpArgs false
theorem zeg {α : Type} (x : Option α) : (x.bind fun v => some v) = x := by cases x <;> rfl
/-! ### Expressions -/
/-! ### Statements -/
/-! ### Systems -/
end Go.Proofs.YtokjbpmjdcbogaaGreatDoor.Abs.Wri
/- Of the reference: how deep something is, is what the writer reckons. -/
namespace Go.Proofs.YtokjbpmjdcbogaaGreatDoor.Abs.Wri
open Go Go.RowKit
set_option linter.unusedVariables false
set_option linter.unusedSimpArgs false
/-! ### Statements -/
def mx (x y : Nat × Nat) : Nat × Nat := (max x.1 y.1, max x.2 y.2)
end Go.Proofs.YtokjbpmjdcbogaaGreatDoor.Abs.Wri
/- Of the reference: the words are those that the writer puts. -/
namespace Go.Proofs.YtokjbpmjdcbogaaGreatDoor.Abs.Wri
open Go Go.RowKit
set_option linter.unusedVariables false
set_option linter.unusedSimpArgs false
/-! ### Numbers -/
section
variable {F : z1m → Option (List ByteArray)} {G : z1m → Bool → Option (List ByteArray)}
end
/-! ### Expressions -/
/-! ### Loops that put words -/
/-! ### Statements -/
/-! ### Systems -/
end Go.Proofs.YtokjbpmjdcbogaaGreatDoor.Abs.Wri
/- The program finds each system the same as itself. -/
namespace Go.Proofs.YtokjbpmjdcbogaaGreatDoor.Abs.Wri
open Go Go.RowKit
set_option linter.unusedVariables false
set_option linter.unusedSimpArgs false
theorem z040 {β O : Type} {body : Int → Option (Sum Int (Sum O Unit))} {n H : Nat} (l : List β) (r : O) (hlen : l.length ≤ 4611686018427387904)
  (hs : ∀ (i : Nat) (x : β), idx l (i : Int) = some x → x ∈ l → i < l.length → IntKind.i64.wrap ((i : Int) + 1) = ((i + 1 : Nat) : Int) → Sn n H (body (i : Int)) (.inl ((i + 1 : Nat) : Int)))
  (he : body (l.length : Int) = some (.inr (.inr ()))) : Sn n H (iter body 0) (.inr ()) := by
 have h := zup (n := n) (H := H) l (fun _ => true) r hlen (fun i x h0 h1 h2 h3 h4 => by simpa using hs i x h1 h2 h3 h4) he
 have e : (l.all fun _ => true) = true := by simp
 rw [e] at h
 simpa using h
theorem zii {β O : Type} {body : Int → Option (Sum Int (Sum O Unit))} (l : List β) (r : O) (hlen : l.length ≤ 4611686018427387904)
  (hs : ∀ (i : Nat) (x : β), idx l (i : Int) = some x → x ∈ l → i < l.length → IntKind.i64.wrap ((i : Int) + 1) = ((i + 1 : Nat) : Int) → body (i : Int) = some (.inl ((i + 1 : Nat) : Int)))
  (he : body (l.length : Int) = some (.inr (.inr ()))) : iter body 0 = some (.inr ()) := by
 rcases z040 (n := 0) (H := 0) l r hlen (fun i x h1 h2 h3 h4 => .inl (hs i x h1 h2 h3 h4)) he with h | ⟨_, h⟩
 ·exact h
 ·omega
theorem zq9 {n : Int} : (n != n) = false := by simp
/-! ### Expressions -/
theorem zn7 : ∀ l : List z04, l.length ≤ szEs l
 | [] => by simp
 | e :: r => by have := zn7 r; have := zp5 e; simp only [szEs, List.length_cons]; omega
theorem zn8 : ∀ {l : List z04} {x : z04}, x ∈ l → szE x ≤ szEs l
 | y :: r, x, h => by
  rcases List.mem_cons.1 h with rfl | h
  ·simp only [szEs]; omega
  ·have := zn8 h; simp only [szEs]; omega
/-! ### Statements -/
theorem zwv : ∀ l : List z03, l.length ≤ szL l := zlp
theorem zq7 : ∀ {l : List z03} {x : z03}, x ∈ l → szS x + 1 ≤ szL l
 | y :: r, x, h => by
  have := z7j r
  rcases List.mem_cons.1 h with rfl | h
  ·simp only [szL]; omega
  ·have := zq7 h; simp only [szL]; omega
theorem zq8 : ∀ {l : List z0m} {x : z0m}, x ∈ l → szL x.Body + 3 ≤ szA l
 | .mk t v b :: r, x, h => by
  have := zga r
  rcases List.mem_cons.1 h with rfl | h
  ·simp only [szA]; show szL b + 3 ≤ _; omega
  ·have := zq8 h; simp only [szA]; omega
theorem zn9 {l : List ByteArray} (h : l.length ≤ 400000000000) : z45 l l = some true := by
 unfold z45
 rw [zii (body := z3p l l) l false (by omega) (fun i x hx hm hlt hw => by
  unfold z3p
  rw [if_pos (by simpa using hlt), hx]
  simp [hw]) (by unfold z3p; rw [if_neg (by simp)])]
 simp
theorem zsb {l : List z3s} (h : l.length ≤ 400000000000) : ze3 l l = some true := by
 unfold ze3
 rw [zii (body := z9n l l) l false (by omega) (fun i x hx hm hlt hw => by
  unfold z9n
  rw [if_pos (by simpa using hlt), hx]
  simp [hw]) (by unfold z9n; rw [if_neg (by simp)])]
 simp
end Go.Proofs.YtokjbpmjdcbogaaGreatDoor.Abs.Wri
