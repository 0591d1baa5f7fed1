/- What lexing is, over lists of bytes, and small facts on bytes and rounds; no program in sight. -/
import Derived.Test.YtnfjgjomokloaaaDoorHandA
import Derived.Test.YtnfjgjomokloaaaDoorAbsU
import Derived.Test.YtnfjgjomokloaaaDoorGwD
import Derived.Lib.ItoaLen
namespace Go.Proofs.YtnfjgjomokloaaaDoor.Abs
open Go Go.RowKit
set_option linter.unusedVariables false
set_option linter.unusedSimpArgs false
theorem zbt {X O : Type} {body : X → Option (Sum X O)} {x y : X} (h : body x = some (.inl y)) : iter body x = iter body y := by rw [za2, h]; rfl
theorem z5s {X O : Type} {body : X → Option (Sum X O)} {x : X} {r : O} (h : body x = some (.inr r)) : iter body x = some r := by rw [za2, h]; rfl
theorem z6r {α : Type} {B : Nat} {L M : List α} (h : (L.length + M.length) * B ≤ 140737488355328) : app B L M = some (L ++ M) := by unfold app; rw [if_pos h]
theorem zfc {α : Type} {l : List α} {i : Nat} (h : i < l.length) : idx l (i : Int) = some l[i] := by
 unfold idx; rw [if_pos (by omega)]; simp [h]
/-! ### Bytes -/
theorem z2l (s : ByteArray) : s.data.toList.length = s.size := by rw [Array.length_toList]; rfl
theorem zo3 (s : ByteArray) (i : Nat) (h : i < s.data.toList.length) : bt s (i : Int) = ((s.data.toList[i]).toNat : Int) := by
 have h' : i < s.size := by rw [← z2l]; exact h
 have := zis s (i : Int) (by simpa using h')
 rw [← this]; simp; rfl
theorem ext_list (s : ByteArray) (a b : Nat) : (s.extract a b).data.toList = (s.data.toList.take b).drop a := by simp [List.drop_take]
theorem zfd (s : ByteArray) (a : Nat) : (s.extract a s.size).data.toList = s.data.toList.drop a := by
 rw [ext_list, List.take_of_length_le (by rw [z2l]; omega)]
theorem zkd {s t : ByteArray} (h : s.data.toList = t.data.toList) : s = t := ByteArray.ext (Array.toList_inj.mp h)

/-! ### What lexing is -/
abbrev Bs := List UInt8
def isL (b : UInt8) : Bool := decide (97 ≤ b.toNat) && decide (b.toNat ≤ 122)
def isD (b : UInt8) : Bool := decide (48 ≤ b.toNat) && decide (b.toNat ≤ 57)
def isA (b : UInt8) : Bool := isL b || isD b
def isB (b : UInt8) : Bool := b == 32 || b == 10
def runL (l : Bs) : Nat := (l.takeWhile isA).length
def resv : List Bs := [[99, 104, 97, 110], [98, 108, 111, 99, 107], [100, 114, 111, 112], [108, 111, 115, 115, 121], [102, 114, 111, 109], [116, 111], [114, 117, 108, 101], [112, 114, 111, 99], [118, 97, 114], [105, 102], [101, 108, 115, 101], [119, 104, 105, 108, 101], [115, 101, 110, 100], [114, 101, 99, 118], [97, 115, 115, 101, 114, 116], [105, 110, 112, 117, 116]]
def dval (l : Bs) : Nat := l.foldl (fun a b => 10 * a + (b.toNat - 48)) 0
def ziv (t : Bs) : Bool := decide (t.length ≤ 10) && !(decide (1 < t.length) && t.head? == some 48) && t.all isD && decide (dval t ≤ 2147483647)
def ones : Bs := [123, 125, 40, 41, 59, 44, 46, 61, 60, 62, 43, 45, 42, 47, 37]
def twos : Bs := [61, 33, 60, 62]
def zb0 (l : Bs) : Nat :=
 if l[1]? = some 61 ∧ l.head? ∈ twos.map some then 2 else if l.head? ∈ ones.map some then 1 else 0
structure W where
 kind : Int
 len : Nat
 num : Nat
/-- The word that a text begins with, or the error. -/
def zb1 (l : Bs) : Except Int W :=
 match l with
 | [] => .error 2
 | b :: _ =>
  if isL b then (if 12 < runL l then .error 3 else .ok ⟨if l.take (runL l) ∈ resv then 4 else 1, runL l, 0⟩)
  else if isD b then (if ziv (l.take (runL l)) then .ok ⟨2, runL l, dval (l.take (runL l))⟩ else .error 3)
  else if zb0 l = 0 then .error 2 else .ok ⟨3, zb0 l, 0⟩
theorem zbd (b : UInt8) (r : Bs) : zb1 (b :: r) =
  if isL b then (if 12 < runL (b :: r) then .error 3 else .ok ⟨if (b :: r).take (runL (b :: r)) ∈ resv then 4 else 1, runL (b :: r), 0⟩)
  else if isD b then (if ziv ((b :: r).take (runL (b :: r))) then .ok ⟨2, runL (b :: r), dval ((b :: r).take (runL (b :: r)))⟩ else .error 3)
  else if zb0 (b :: r) = 0 then .error 2 else .ok ⟨3, zb0 (b :: r), 0⟩ := rfl
structure Tok where
 kind : Int
 text : Bs
 num : Nat
 at_ : Nat
/-- All words from a place on, and the error with its place. -/
def lexS (l : Bs) (p : Nat) : List Tok × Option (Nat × Int) :=
 match l with
 | [] => ([], none)
 | b :: r =>
  if isB b then lexS r (p + 1)
  else match zb1 (b :: r) with
   | .error e => ([], some (p, e))
   | .ok w => let z := lexS (r.drop (w.len - 1)) (p + w.len); (⟨w.kind, (b :: r).take w.len, w.num, p⟩ :: z.1, z.2)
termination_by l.length
decreasing_by all_goals (simp; try omega)
/-- What is told. -/
def told (size : Nat) (z : List Tok × Option (Nat × Int)) : List Tok × Int × Int :=
 match z.2 with
 | some (p, e) => ([], (p : Int), e)
 | none => if 2000 < z.1.length then ([], (size : Int), 4) else (z.1, 0, 0)

/-! ### Facts -/
theorem zee (l : Bs) : runL l ≤ l.length := by
 unfold runL; have := List.takeWhile_prefix (p := isA) (l := l); exact this.length_le
theorem zak (b : UInt8) (l : Bs) : runL (b :: l) = if isA b then runL l + 1 else 0 := by
 unfold runL; rw [List.takeWhile_cons]; split <;> simp
theorem zbu {b : UInt8} {l : Bs} (h : isA b = true) : 0 < runL (b :: l) := by rw [zak, if_pos h]; omega
theorem zfe (l : Bs) : zb0 l ≤ l.length := by
 unfold zb0
 split
 ·rename_i h; have := (List.getElem?_eq_some_iff.mp h.1).1; omega
 ·split
  ·rename_i h; cases l with
   | nil => simp at h
   | cons a t => simp
  ·omega
theorem zd3 {l : Bs} {w : W} (h : zb1 l = .ok w) : 0 < w.len ∧ w.len ≤ l.length := by
 cases l with
 | nil => simp [zb1] at h
 | cons b r =>
  simp only [zb1] at h
  split at h
  ·rename_i hb; split at h
   ·cases h
   ·cases h; exact ⟨zbu (by simp [isA, hb]), zee _⟩
  ·split at h
   ·rename_i hb; split at h
    ·cases h; exact ⟨zbu (by simp [isA, hb]), zee _⟩
    ·cases h
   ·split at h
    ·cases h
    ·rename_i hz; cases h; exact ⟨by simp; omega, zfe _⟩
theorem zff (p : Nat) : lexS [] p = ([], none) := by rw [lexS]
theorem zgx {b : UInt8} (r : Bs) (p : Nat) (h : isB b = true) : lexS (b :: r) p = lexS r (p + 1) := by rw [lexS, if_pos h]
theorem zgy {b : UInt8} {r : Bs} {p : Nat} {e : Int} (h : isB b = false) (hw : zb1 (b :: r) = .error e) : lexS (b :: r) p = ([], some (p, e)) := by
 rw [lexS, if_neg (by simp [h]), hw]
theorem ziw {b : UInt8} {r : Bs} {p : Nat} {w : W} (h : isB b = false) (hw : zb1 (b :: r) = .ok w) :
  lexS (b :: r) p = (⟨w.kind, (b :: r).take w.len, w.num, p⟩ :: (lexS ((b :: r).drop w.len) (p + w.len)).1, (lexS ((b :: r).drop w.len) (p + w.len)).2) := by
 rw [lexS, if_neg (by simp [h]), hw]
 have := (zd3 hw).1
 have e : (b :: r).drop w.len = r.drop (w.len - 1) := by
  obtain ⟨n, hn⟩ : ∃ n, w.len = n + 1 := ⟨w.len - 1, by omega⟩
  rw [hn]; simp
 rw [e]

/-! ### Numbers -/
def z8a (a : Nat) (b : UInt8) : Nat := 10 * a + (b.toNat - 48)
theorem zfg (l : Bs) : ∀ a, a * 10 ^ l.length ≤ l.foldl z8a a := by
 induction l with
 | nil => intro a; simp
 | cons b r ih =>
  intro a
  have h := ih (z8a a b)
  simp only [List.foldl_cons, List.length_cons]
  refine Nat.le_trans ?_ h
  rw [Nat.pow_succ, Nat.mul_comm (10 ^ r.length) 10, ← Nat.mul_assoc]
  exact Nat.mul_le_mul_right _ (by unfold z8a; omega)
theorem zix (l : Bs) : dval l = l.foldl z8a 0 := rfl
theorem z8b (s : ByteArray) (i : Nat) (h : i < s.data.toList.length) : bidx s (i : Int) = some ((s.data.toList[i]).toNat : Int) := by
 have h' : i < s.size := by rw [← z2l]; exact h
 unfold bidx
 rw [if_pos (by omega), Int.toNat_natCast, getElem?_pos s i h']
 rfl
theorem zed {s : ByteArray} {a b : Nat} (h1 : a ≤ b) (h2 : b ≤ s.size) : ssub s (a : Int) (b : Int) = some (s.extract a b) := by
 unfold ssub; rw [if_pos ⟨by omega, by omega, by omega⟩]; simp
end Go.Proofs.YtnfjgjomokloaaaDoor.Abs
/- lex.Lex, as it is printed, comes to what lexing is, of all texts of at most 4,194,304 bytes. -/
namespace Go.Proofs.YtnfjgjomokloaaaDoor.Abs
open Go Go.RowKit
set_option linter.unusedVariables false
set_option linter.unusedSimpArgs false
theorem zbv (b : UInt8) : z5a (b.toNat : Int) = some (isL b) := by
 unfold z5a isL
 by_cases h : 97 ≤ b.toNat
 ·rw [if_pos (by simp; omega)]; simp only [h, decide_true, Bool.true_and]; exact congrArg some (decide_eq_decide.mpr (by omega))
 ·rw [if_neg (by simp; omega)]; simp only [h, decide_false, Bool.false_and]
theorem zef (b : UInt8) : z5z (b.toNat : Int) = some (isD b) := by
 unfold z5z isD
 by_cases h : 48 ≤ b.toNat
 ·rw [if_pos (by simp; omega)]; simp only [h, decide_true, Bool.true_and]; exact congrArg some (decide_eq_decide.mpr (by omega))
 ·rw [if_neg (by simp; omega)]; simp only [h, decide_false, Bool.false_and]
theorem zo4 (p : ByteArray) (hp : p.size ≤ 4194304) : ∀ (d i : Nat), p.size - i = d → i ≤ p.size →
  iter (z4o p) (i : Int) = some (.inr ((i + runL (p.data.toList.drop i) : Nat) : Int)) := by
 intro d
 induction d with
 | zero =>
  intro i hd hi
  have : i = p.size := by omega
  refine z5s ?_
  unfold z4o
  rw [if_neg (by simp; omega), List.drop_of_length_le (by rw [z2l]; omega)]
  simp [runL]
 | succ d ih =>
  intro i hd hi
  have hl : i < p.data.toList.length := by rw [z2l]; omega
  have e := List.drop_eq_getElem_cons hl
  have hb := z8b p i hl
  generalize p.data.toList[i] = b at e hb
  have hw : IntKind.i64.wrap ((i : Int) + 1) = ((i + 1 : Nat) : Int) := by rw [w64 (by omega) (by omega)]; omega
  have IH := ih (i + 1) (by omega) (by omega)
  have hs : (decide ((i : Int) < (p.size : Int))) = true := by simp; omega
  rw [e, zak]
  by_cases hA : isA b = true
  ·rw [if_pos hA]
   rw [zbt (y := ((i + 1 : Nat) : Int)) ?_, IH]
   ·congr 2; omega
   ·unfold z4o
    rw [if_pos hs, hb]
    simp only [Option.bind_eq_bind, Option.bind_some, zbv, zef, hw]
    unfold isA at hA
    cases hL : isL b
    ·rw [hL] at hA; simp only [Bool.false_or] at hA; simp [hA]
    ·simp
  ·rw [if_neg hA]
   refine z5s ?_
   unfold z4o
   rw [if_pos hs, hb]
   simp only [Option.bind_eq_bind, Option.bind_some, zbv, zef]
   unfold isA at hA
   simp only [Bool.or_eq_true, not_or, Bool.not_eq_true] at hA
   simp [hA.1, hA.2]
theorem zp2 (p : ByteArray) (hp : p.size ≤ 4194304) : z8q p = some ((runL p.data.toList : Nat) : Int) := by
 have := zo4 p hp p.size 0 (by omega) (by omega)
 unfold z8q
 rw [show ((0 : Int)) = ((0 : Nat) : Int) from rfl, this]
 simp
theorem zgz (s : ByteArray) : z50 s = some (decide (s.data.toList ∈ resv)) := by
 unfold z50
 simp only [Go.ByteArray.toList_eq]
 generalize s.data.toList = l
 by_cases hm : l ∈ resv
 ·have hm2 := hm
  unfold resv at hm2
  simp only [List.mem_cons, List.not_mem_nil, or_false] at hm2
  rcases hm2 with rfl | rfl | rfl | rfl | rfl | rfl | rfl | rfl | rfl | rfl | rfl | rfl | rfl | rfl | rfl | rfl
  all_goals rfl
 ·have hm2 := hm
  unfold resv at hm2
  simp only [List.mem_cons, List.not_mem_nil, or_false, not_or] at hm2
  obtain ⟨h0, h1, h2, h3, h4, h5, h6, h7, h8, h9, h10, h11, h12, h13, h14, h15⟩ := hm2
  simp only [hm, decide_false, beq_iff_eq, h0, h1, h2, h3, h4, h5, h6, h7, h8, h9, h10, h11, h12, h13, h14, h15, if_false]
theorem zmo (s : ByteArray) (hp : s.size ≤ 12) : z60 s = some (⟨if s.data.toList ∈ resv then 4 else 1, s, 0, 0⟩, 0) := by
 unfold z60
 rw [if_neg (by simp; omega), zgz]
 by_cases hm : s.data.toList ∈ resv <;> simp [hm]
theorem zo5 (l : Bs) (c : UInt8) : (0 ≤ Lib.indexByte l c) ↔ c ∈ l := by
 induction l with
 | nil => simp [Lib.indexByte]
 | cons b r ih =>
  simp only [Lib.indexByte]
  have hge := Lib.indexByte_ge r c
  by_cases hb : (b == c) = true
  ·simp [(beq_iff_eq.mp hb).symm]
  ·have hb' : ¬ b = c := by simpa using hb
   simp only [hb, Bool.false_eq_true, if_false]
   by_cases hr : (Lib.indexByte r c == -1) = true
   ·simp only [hr, if_true]
    have : ¬ (0 ≤ Lib.indexByte r c) := by have := beq_iff_eq.mp hr; omega
    have : ¬ c ∈ r := fun h => this (ih.mpr h)
    simp [this, Ne.symm hb']
   ·simp only [hr, Bool.false_eq_true, if_false]
    have : ¬ Lib.indexByte r c = -1 := by simpa using hr
    have h2 : c ∈ r := ih.mp (by omega)
    simp [h2]; omega
theorem zp3 (b : UInt8) : ((b.toNat : Int)).toNat.toUInt8 = b := by simp

theorem ziy (l : Bs) (c : UInt8) : ∃ z, ze1 ⟨l.toArray⟩ (c.toNat : Int) = some z ∧ (decide (z ≥ 0) = decide (c ∈ l)) := by
 refine ⟨_, rfl, ?_⟩
 rw [zp3]
 exact decide_eq_decide.mpr (zo5 l c)
theorem zo6 (p : ByteArray) (h0 : 0 < p.size) : z7z p = some ((zb0 p.data.toList : Nat) : Int) := by
 have hl0 : 0 < p.data.toList.length := by rw [z2l]; omega
 have hb0 := z8b p 0 hl0
 have e0 : p.data.toList.head? = some (p.data.toList[0]) := by rw [List.head?_eq_getElem?]; exact List.getElem?_eq_getElem hl0
 generalize p.data.toList[0] = a at e0 hb0
 obtain ⟨z1, hz1, hd1⟩ := ziy ones a
 obtain ⟨z2, hz2, hd2⟩ := ziy twos a
 have ho : (p.data.toList.head? ∈ ones.map some) ↔ a ∈ ones := by rw [e0]; simp
 have ht : (p.data.toList.head? ∈ twos.map some) ↔ a ∈ twos := by rw [e0]; simp
 have hS : zb0 p.data.toList = if (p.data.toList[1]? = some 61 ∧ a ∈ twos) then 2 else if a ∈ ones then 1 else 0 := by
  unfold zb0; simp only [ht, ho]
 rw [hS]
 unfold z7z
 have hz1 : ze1 (ByteArray.mk #[123, 125, 40, 41, 59, 44, 46, 61, 60, 62, 43, 45, 42, 47, 37]) (a.toNat : Int) = some z1 := hz1
 have hz2 : ze1 (ByteArray.mk #[61, 33, 60, 62]) (a.toNat : Int) = some z2 := hz2
 have hb0 : bidx p 0 = some (a.toNat : Int) := hb0
 simp only [hb0, Option.bind_eq_bind, Option.bind_some, hz1, hz2, hd1, hd2]
 by_cases h1 : 1 < p.size
 ·have hl1 : 1 < p.data.toList.length := by rw [z2l]; omega
  have hb1 := z8b p 1 hl1
  have e1 : p.data.toList[1]? = some (p.data.toList[1]) := List.getElem?_eq_getElem hl1
  generalize p.data.toList[1] = c at e1 hb1
  have hb1 : bidx p 1 = some (c.toNat : Int) := hb1
  have hc61 : ((c.toNat : Int) == 61) = decide (c = 61) := by
   by_cases hc : c = 61
   ·subst hc; rfl
   ·have : ¬ ((c.toNat : Int) = 61) := by intro h; apply hc; apply UInt8.toNat_inj.mp; have : (61 : UInt8).toNat = 61 := rfl; omega
    simp [hc, this]
  have hgt : (decide ((p.size : Int) > 1)) = true := by simp; omega
  rw [e1]
  simp only [hgt, if_true, hb1, Option.bind_some, hc61]
  by_cases hc : c = 61 <;> by_cases hm : a ∈ twos <;> by_cases hn : a ∈ ones <;> simp [hc, hm, hn]
 ·have e1 : p.data.toList[1]? = none := List.getElem?_eq_none (by rw [z2l]; omega)
  have hgt : (decide ((p.size : Int) > 1)) = false := by simp; omega
  rw [e1]
  simp only [hgt]
  by_cases hn : a ∈ ones <;> simp [hn]
/-! ### lex.number -/
theorem zke (b : UInt8) : digs.contains b = isD b := by
 rw [Bool.eq_iff_iff]
 constructor
 ·intro h
  have h : b ∈ digs := by simpa using h
  unfold digs at h
  simp only [List.mem_cons, List.not_mem_nil, or_false] at h
  rcases h with rfl | rfl | rfl | rfl | rfl | rfl | rfl | rfl | rfl | rfl <;> rfl
 ·intro h
  simp only [isD, Bool.and_eq_true, decide_eq_true_eq] at h
  have h2 : b.toNat = 48 ∨ b.toNat = 49 ∨ b.toNat = 50 ∨ b.toNat = 51 ∨ b.toNat = 52 ∨ b.toNat = 53 ∨ b.toNat = 54 ∨ b.toNat = 55 ∨ b.toNat = 56 ∨ b.toNat = 57 := by omega
  have e : ∀ n, b.toNat = n → b = UInt8.ofNat n := fun n h => by rw [← h]; simp
  rcases h2 with h | h | h | h | h | h | h | h | h | h <;> (rw [e _ h]; rfl)
theorem ziz {p : UInt8 → Bool} {l : Bs} : l.dropWhile p = [] ↔ ∀ x ∈ l, p x = true := by
 induction l with
 | nil => simp
 | cons b r ih =>
  rw [List.dropWhile_cons]
  by_cases h : p b = true
  ·rw [if_pos h, ih]; simp [h]
  ·rw [if_neg h]; simp [h]
theorem zfh (l : Bs) : (Lib.trimS l digs = []) ↔ (l.all isD = true) := by
 have hp : (fun b => digs.contains b) = isD := funext zke
 unfold Lib.trimS Lib.trimLeftS Lib.trimRightS
 rw [show (digs.contains ·) = isD from hp]
 constructor
 ·intro h
  rw [ziz] at h
  have h2 : List.dropWhile isD l.reverse = [] := by
   cases hm : List.dropWhile isD l.reverse with
   | nil => rfl
   | cons x m =>
    have h3 := List.head_dropWhile_not isD (l := l.reverse) (by rw [hm]; simp)
    have h4 := h x (by rw [List.mem_reverse, hm]; simp)
    simp only [hm, List.head_cons] at h3
    rw [h4] at h3; cases h3
  rw [ziz] at h2
  exact List.all_eq_true.mpr fun x hx => h2 x (by simpa using hx)
 ·intro h
  have h1 : List.dropWhile isD l.reverse = [] := ziz.mpr fun x hx => List.all_eq_true.mp h x (by simpa using hx)
  rw [h1]; rfl
theorem zo7 (l : Bs) (h : ∀ b ∈ l, isD b = true) : ∀ acc, acc ≤ 4294967295 →
  Lib.parseUintM 4294967295 acc l = if l.foldl z8a acc ≤ 4294967295 then .ok (l.foldl z8a acc) else .range := by
 induction l with
 | nil => intro acc ha; simp [Lib.parseUintM, ha]
 | cons c r ih =>
  intro acc ha
  have hc := h c List.mem_cons_self
  simp only [isD, Bool.and_eq_true, decide_eq_true_eq] at hc
  have hr := ih (fun x hx => h x (List.mem_cons_of_mem _ hx))
  rw [List.foldl_cons]
  simp only [Lib.parseUintM]
  rw [if_pos hc, if_neg (by omega)]
  have es : acc * 10 + (c.toNat - 48) = z8a acc c := by unfold z8a; omega
  rw [es]
  by_cases hM : 4294967295 < z8a acc c
  ·rw [if_pos hM, if_neg]
   have := zfg r (z8a acc c)
   have hp : 1 ≤ 10 ^ r.length := Nat.one_le_pow _ _ (by omega)
   have := Nat.mul_le_mul_left (z8a acc c) hp
   omega
  ·rw [if_neg hM, hr _ (by omega)]
theorem zj0 (c : UInt8) (r : Bs) (h : ∀ b ∈ c :: r, isD b = true) :
  Lib.parseIntB 32 (c :: r) = if dval (c :: r) ≤ 2147483647 then .ok ((dval (c :: r) : Nat) : Int) else .range := by
 have hc := h c List.mem_cons_self
 simp only [isD, Bool.and_eq_true, decide_eq_true_eq] at hc
 have hp := zo7 (c :: r) h 0 (by omega)
 simp only [Lib.parseIntB]
 rw [if_neg (by omega)]
 unfold Lib.parseUintB
 rw [if_neg (by simp)]
 rw [show (2 ^ 32 - 1 : Nat) = 4294967295 from rfl, hp, ← zix]
 generalize dval (c :: r) = v
 have h45 : ¬ (c.toNat = 45) := by omega
 by_cases h1 : v ≤ 4294967295
 ·rw [if_pos h1]
  by_cases h2 : v ≤ 2147483647
  ·rw [if_pos h2]; dsimp only; rw [if_neg (by rintro ⟨_, h⟩; omega), if_neg (by rintro ⟨h, _⟩; exact h45 h), if_neg h45]
  ·rw [if_neg h2]; dsimp only; rw [if_pos ⟨h45, by omega⟩]
 ·rw [if_neg h1, if_neg (by omega)]
theorem zkf (c : UInt8) (r : Bs) (hc : isD c = true) (h48 : c ≠ 48) (hv : dval (c :: r) ≤ 2147483647) : (c :: r).length ≤ 10 := by
 simp only [isD, Bool.and_eq_true, decide_eq_true_eq] at hc
 have h1 : c.toNat ≠ 48 := fun h => h48 (UInt8.toNat_inj.mp (by rw [h]; rfl))
 rw [zix, List.foldl_cons] at hv
 have hg := zfg r (z8a 0 c)
 have hs : 1 ≤ z8a 0 c := by unfold z8a; omega
 have h2 : 10 ^ r.length ≤ 2147483647 := by
  have := Nat.mul_le_mul_right (10 ^ r.length) hs
  omega
 have h3 : r.length < 10 := by
  refine Decidable.byContradiction fun hn => ?_
  have : 10 ^ 10 ≤ 10 ^ r.length := Nat.pow_le_pow_right (by omega) (by omega)
  have : (10 : Nat) ^ 10 = 10000000000 := by decide
  omega
 simp; omega
theorem zkg (s : ByteArray) (c : UInt8) (r : Bs) (e : s.data.toList = c :: r) (hc : isD c = true) (hs : s.size ≤ 4194304) :
  zab s = if ziv (c :: r) then some (((dval (c :: r) : Nat) : Int), 0) else some (0, 3) := by
 have hsz : s.size = (c :: r).length := by rw [← e, z2l]
 have hb := zo3 s 0 (by rw [e]; simp)
 have hb : bt s 0 = (c.toNat : Int) := by simpa [e] using hb
 have h48 : (bt s 0 = 48) ↔ c = 48 := by
  rw [hb]; constructor
  ·intro h; exact UInt8.toNat_inj.mp (by have : (48 : UInt8).toNat = 48 := rfl; omega)
  ·rintro rfl; rfl
 unfold zab ziv
 rw [if_pos (by omega), e, hsz]
 have hh : ((c :: r).head? == some 48) = decide (c = 48) := by
  by_cases h : c = 48
  ·subst h; rfl
  ·simp [h]
 rw [hh]
 by_cases hall : (c :: r).all isD = true
 ·have ht := (zfh (c :: r)).mpr hall
  by_cases h1 : 1 < (c :: r).length ∧ c = 48
  ·rw [if_pos (.inr ⟨h1.1, h48.mpr h1.2⟩)]
   rw [if_neg]
   simp only [Bool.and_eq_true, decide_eq_true_eq, Bool.not_eq_true', Bool.and_eq_false_iff, decide_eq_false_iff_not]
   rintro ⟨⟨⟨_, h | h⟩, _⟩, _⟩
   ·exact h h1.1
   ·exact h h1.2
  ·rw [if_neg (by rintro (h | ⟨h, h'⟩); exact h ht; exact h1 ⟨h, h48.mp h'⟩), zj0 c r (fun b hb => List.all_eq_true.mp hall b hb)]
   by_cases hv : dval (c :: r) ≤ 2147483647
   ·have hl : (c :: r).length ≤ 10 := by
     by_cases hz : c = 48
     ·have : ¬ 1 < (c :: r).length := fun h => h1 ⟨h, hz⟩
      omega
     ·exact zkf c r hc hz hv
    rw [if_pos hv, if_pos]
    simp only [Bool.and_eq_true, hall, decide_eq_true_eq, hv, hl, and_true, true_and, Bool.not_eq_true', Bool.and_eq_false_iff, decide_eq_false_iff_not]
    by_cases hz : c = 48
    ·left; exact fun h => h1 ⟨h, hz⟩
    ·right; exact hz
   ·rw [if_neg hv, if_neg]
    simp only [Bool.and_eq_true, decide_eq_true_eq, hv, and_false, not_false_eq_true]
 ·rw [if_pos (.inl fun h => hall ((zfh _).mp h)), if_neg]
  intro h
  simp only [Bool.and_eq_true] at h
  exact hall h.1.2

/-! ### lex.word, lex.Lex -/
theorem zo8 (p : ByteArray) (b : UInt8) (r : Bs) (e : p.data.toList = b :: r) (hp : p.size ≤ 4194304) :
  match zb1 (b :: r) with
  | .ok w => z6a p = some (⟨w.kind, p.extract 0 w.len, (w.num : Int), 0⟩, 0)
  | .error c => ∃ x, c ≠ 0 ∧ z6a p = some (x, c) := by
 have hsz : p.size = (b :: r).length := by rw [← e, z2l]
 have h0 : 0 < p.size := by rw [hsz]; simp
 have hb : bidx p 0 = some (b.toNat : Int) := by
  have := z8b p 0 (by rw [e]; simp)
  simpa [e] using this
 have hrun := zp2 p hp
 rw [e] at hrun
 have hrl := zee (b :: r)
 have hxl : (p.extract 0 (runL (b :: r))).data.toList = (b :: r).take (runL (b :: r)) := by rw [ext_list, e]; simp
 have hxs : (p.extract 0 (runL (b :: r))).size = runL (b :: r) := by rw [← z2l, hxl, List.length_take]; omega
 have hcut : ∀ n : Nat, n ≤ p.size → ssub p 0 (n : Int) = some (p.extract 0 n) := fun n hn => zed (Nat.zero_le _) hn
 unfold z6a
 simp only [hb, Option.bind_eq_bind, Option.bind_some, zbv, zef]
 rw [zbd]
 by_cases hL : isL b = true
 ·rw [if_pos hL, if_pos hL, hrun]
  simp only [Option.bind_some, hcut _ (by omega : runL (b :: r) ≤ p.size)]
  by_cases h12 : 12 < runL (b :: r)
  ·rw [if_pos h12]
   refine ⟨⟨0, ByteArray.mk #[], 0, 0⟩, by decide, ?_⟩
   unfold z60
   rw [if_pos (by simp [hxs]; omega)]; rfl
  ·rw [if_neg h12, zmo _ (by omega), hxl]; rfl
 ·rw [if_neg hL, if_neg hL]
  by_cases hD : isD b = true
  ·have hxe : (p.extract 0 (runL (b :: r))).data.toList = b :: r.take (runL (b :: r) - 1) := by
    rw [hxl]
    have := zbu (b := b) (l := r) (by simp [isA, hD])
    obtain ⟨n, hn⟩ : ∃ n, runL (b :: r) = n + 1 := ⟨runL (b :: r) - 1, by omega⟩
    rw [hn]; simp
   have hnum := zkg (p.extract 0 (runL (b :: r))) b _ hxe hD (by omega)
   rw [← hxe, hxl] at hnum
   rw [if_pos hD, if_pos hD, hrun]
   simp only [Option.bind_some, hcut _ (by omega : runL (b :: r) ≤ p.size), hnum]
   by_cases ho : ziv ((b :: r).take (runL (b :: r))) = true
   ·rw [if_pos ho, if_pos ho]; rfl
   ·rw [if_neg ho, if_neg ho]; exact ⟨_, by decide, rfl⟩
  ·rw [if_neg hD, if_neg hD, zo6 p h0, e]
   have hsl := zfe (b :: r)
   simp only [Option.bind_some]
   by_cases hz : zb0 (b :: r) = 0
   ·rw [if_pos hz, if_pos (by simp [hz])]
    exact ⟨_, by decide, rfl⟩
   ·rw [if_neg hz, if_neg (by simpa using hz), hcut _ (by omega)]; rfl
def tokT (t : Tok) : z18 := ⟨t.kind, ⟨t.text.toArray⟩, (t.num : Int), (t.at_ : Int)⟩
def finT (size : Nat) (z : List Tok × Option (Nat × Int)) : List z18 × Int × Int :=
 ((told size z).1.map tokT, (told size z).2.1, (told size z).2.2)
theorem zkh (size : Nat) (acc : List Tok) (p : Nat) (e : Int) : finT size (acc, some (p, e)) = ([], (p : Int), e) := rfl
theorem zo9 (s : ByteArray) (hs : s.size ≤ 4194304) : ∀ (d i : Nat) (acc : List Tok), s.size - i = d → i ≤ s.size → acc.length ≤ i →
  (iter (z4p s) ((i : Int), acc.map tokT) >>= Sum.elim (fun r => some r) (fun j1 => if (decide ((j1.length : Int) > 2000)) then (some ([], (s.size : Int), 4)) else (some (j1, 0, 0)))) = some (finT s.size (acc ++ (lexS (s.data.toList.drop i) i).1, (lexS (s.data.toList.drop i) i).2)) := by
 intro d
 induction d using Nat.strongRecOn with
 | _ d ih =>
 intro i acc hd hi ha
 by_cases hlt : i < s.size
 ·have hl : i < s.data.toList.length := by rw [z2l]; omega
  have e := List.drop_eq_getElem_cons hl
  have hb := z8b s i hl
  generalize s.data.toList[i] = b at e hb
  have hw : IntKind.i64.wrap ((i : Int) + 1) = ((i + 1 : Nat) : Int) := by rw [w64 (by omega) (by omega)]; omega
  have hs1 : (decide ((i : Int) < (s.size : Int))) = true := by simp; omega
  have h32 : ((b.toNat : Int) == 32) = (b == 32) := by
   rw [Bool.eq_iff_iff, beq_iff_eq, beq_iff_eq]
   constructor
   ·intro h; exact UInt8.toNat_inj.mp (by have : (32 : UInt8).toNat = 32 := rfl; omega)
   ·rintro rfl; rfl
  have h10 : ((b.toNat : Int) == 10) = (b == 10) := by
   rw [Bool.eq_iff_iff, beq_iff_eq, beq_iff_eq]
   constructor
   ·intro h; exact UInt8.toNat_inj.mp (by have : (10 : UInt8).toNat = 10 := rfl; omega)
   ·rintro rfl; rfl
  have hJ : (if (b == 32) = true then some true else some (b == 10)) = some (isB b) := by
   unfold isB; cases (b == 32) <;> simp
  have hbody : z4p s ((i : Int), acc.map tokT) = (if isB b then some (.inl (((i + 1 : Nat) : Int), acc.map tokT)) else
    (ssub s (i : Int) (s.size : Int) >>= fun v3 => z6a v3 >>= fun v4 => if (v4.2 != 0) then (some (.inr (.inl ([], (i : Int), v4.2))))
     else (app 40 (acc.map tokT) [(z18.mk v4.1.Kind v4.1.Text v4.1.Num (i : Int))] >>= fun v5 => some (.inl ((IntKind.i64.wrap ((i : Int) + (v4.1.Text.size : Int))), v5))))) := by
   unfold z4p
   rw [if_pos hs1]
   simp only [hb, Option.bind_eq_bind, Option.bind_some, h32, h10, hw, hJ]
  rw [e]
  by_cases hB : isB b = true
  ·rw [zgx _ _ hB, zbt (y := (((i + 1 : Nat) : Int), acc.map tokT)) (by rw [hbody, if_pos hB])]
   exact ih (s.size - (i + 1)) (by omega) (i + 1) acc rfl (by omega) (by omega)
  ·have hB' : isB b = false := by simpa using hB
   rw [if_neg hB, zed (by omega) (Nat.le_refl _)] at hbody
   simp only [Option.bind_eq_bind, Option.bind_some] at hbody
   have hpl : (s.extract i s.size).data.toList = b :: s.data.toList.drop (i + 1) := by rw [zfd, e]
   have hps : (s.extract i s.size).size ≤ 4194304 := by rw [ByteArray.size_extract]; omega
   have hwd := zo8 (s.extract i s.size) b _ hpl hps
   cases hw1 : zb1 (b :: s.data.toList.drop (i + 1)) with
   | error c =>
    rw [hw1] at hwd
    obtain ⟨x, hc, hE⟩ := hwd
    rw [hE] at hbody
    simp only [Option.bind_some] at hbody
    rw [if_pos (by simpa using hc)] at hbody
    rw [z5s hbody, zgy hB' hw1, zkh]
    rfl
   | ok w =>
    rw [hw1] at hwd
    have hlen := zd3 hw1
    have hlen2 : w.len ≤ s.size - i := by
     have := hlen.2
     rw [← hpl, zfd, List.length_drop, z2l] at this
     exact this
    have hx : (s.extract i s.size).extract 0 w.len = (⟨((b :: s.data.toList.drop (i + 1)).take w.len).toArray⟩ : ByteArray) := by
     refine zkd ?_
     rw [ext_list, hpl]; simp
    have hxs : ((⟨((b :: s.data.toList.drop (i + 1)).take w.len).toArray⟩ : ByteArray)).size = w.len := by
     rw [← z2l]; simp only [List.length_take]
     omega
    have hd2 : (b :: s.data.toList.drop (i + 1)).drop w.len = s.data.toList.drop (i + w.len) := by
     rw [← e, List.drop_drop]
    rw [hwd] at hbody
    simp only [Option.bind_some] at hbody
    rw [if_neg (by simp), z6r (by simp; omega)] at hbody
    simp only [Option.bind_some] at hbody
    rw [hx, hxs, w64 (by omega) (by omega)] at hbody
    have IH := ih (s.size - (i + w.len)) (by omega) (i + w.len) (acc ++ [(⟨w.kind, (b :: s.data.toList.drop (i + 1)).take w.len, w.num, i⟩ : Tok)]) rfl (by omega) (by simp; omega)
    rw [zbt hbody, ziw hB' hw1, hd2]
    simp only [List.map_append, List.map_cons, List.map_nil, List.append_assoc, List.cons_append, List.nil_append] at IH
    rw [← show (((i + w.len : Nat) : Int)) = (i : Int) + (w.len : Int) by push_cast; rfl]
    exact IH
 ·have hie : i = s.size := by omega
  have hnil : s.data.toList.drop i = [] := List.drop_of_length_le (by rw [z2l]; omega)
  rw [hnil, zff]
  rw [z5s (r := .inr (acc.map tokT)) (by unfold z4p; rw [if_neg (by simp; omega)])]
  simp only [List.append_nil, finT, told, List.length_map, Option.bind_eq_bind, Option.bind_some, Sum.elim_inr]
  by_cases h2 : 2000 < acc.length
  ·rw [if_pos (by simp; omega), if_pos h2]; rfl
  ·rw [if_neg (by simp; omega), if_neg h2]
theorem zo1 (s : ByteArray) (hs : s.size ≤ 4194304) : z39 s = some (finT s.size (lexS s.data.toList 0)) := by
 have := zo9 s hs s.size 0 [] (by omega) (by omega) (by simp)
 unfold z39
 simpa using this
end Go.Proofs.YtnfjgjomokloaaaDoor.Abs
/- What the writer puts, in plain words: words, whether something can't be, whether it is too deep. -/
namespace Go.Proofs.YtnfjgjomokloaaaDoor.Abs.Wri
open Go Go.RowKit
set_option linter.unusedVariables false
set_option linter.unusedSimpArgs false
/-! ### With as much fuel as is enough -/
def Sn {α : Type} (n h : Nat) (x : Option α) (r : α) : Prop := x = some r ∨ (x = none ∧ n < h)
theorem Sn.pure {α : Type} {n h : Nat} {x : Option α} {r : α} (e : x = some r) : Sn n h x r := .inl e
theorem Sn.mono {α : Type} {n h h' : Nat} {x : Option α} {r : α} (s : Sn n h x r) (hh : h ≤ h') : Sn n h' x r := s.imp id fun ⟨a, b⟩ => ⟨a, by omega⟩
theorem Sn.bind {α β : Type} {n h : Nat} {x : Option α} {f : α → Option β} {r : α} {t : β} (s : Sn n h x r) (k : Sn n h (f r) t) : Sn n h (x >>= f) t := by
 rcases s with rfl | ⟨rfl, hn⟩
 ·exact k
 ·exact .inr ⟨rfl, hn⟩
theorem Sn.up {α : Type} {n h : Nat} {x : Option α} {r : α} (s : Sn n h x r) : Sn (n + 1) (h + 1) x r := s.imp id fun ⟨a, b⟩ => ⟨a, by omega⟩
theorem Sn.unf {α : Type} {f : Nat → Option α} {r : α} {h : Nat} (s : ∀ n, Sn n h (f n) r) : unf f = some r := by
 refine zks h ?_ fun m t hm => ?_
 ·rcases s h with e | ⟨_, e⟩
  ·exact e
  ·omega
 ·rcases s m with e | ⟨e, _⟩
  ·rw [hm] at e; exact Option.some.inj e
  ·rw [hm] at e; cases e
/-! ### What is put -/
structure Wr where
 ws : List ByteArray
 bad : Bool
 dp : Bool
def Wr.app (x y : Wr) : Wr := ⟨x.ws ++ y.ws, x.bad || y.bad, x.dp || y.dp⟩
instance : Append Wr := ⟨Wr.app⟩
theorem Wr.app_def (x y : Wr) : x ++ y = ⟨x.ws ++ y.ws, x.bad || y.bad, x.dp || y.dp⟩ := rfl
@[simp] theorem Wr.ws_app (x y : Wr) : (x ++ y).ws = x.ws ++ y.ws := rfl
@[simp] theorem Wr.bad_app (x y : Wr) : (x ++ y).bad = (x.bad || y.bad) := rfl
@[simp] theorem Wr.dp_app (x y : Wr) : (x ++ y).dp = (x.dp || y.dp) := rfl
theorem Wr.assoc (x y z : Wr) : x ++ y ++ z = x ++ (y ++ z) := by simp [Wr.app_def, Bool.or_assoc]
def Wr.nil : Wr := ⟨[], false, false⟩
theorem Wr.app_nil (x : Wr) : x ++ Wr.nil = x := by simp [Wr.app_def, Wr.nil]
/-- Words. -/
def wW (l : List ByteArray) : Wr := ⟨l, false, false⟩
/-- What must be. -/
def wM (ok : Bool) : Wr := ⟨[], !ok, false⟩
/-- A depth. -/
def wD (q : Int) : Wr := ⟨[], false, decide (q > 24)⟩
def act (a : z00) (x : Wr) : z00 := ⟨a.f_out ++ x.ws, a.f_form || x.bad, a.f_deep || x.dp, a.f_blocks, a.f_parens⟩
theorem z0v (a : z00) (x y : Wr) : act (act a x) y = act a (x ++ y) := by simp [act, Wr.app_def, Bool.or_assoc]
@[simp] theorem z4x (a : z00) (x : Wr) : (act a x).f_blocks = a.f_blocks := rfl
@[simp] theorem z1y (a : z00) (x : Wr) : (act a x).f_parens = a.f_parens := rfl
theorem zbw (a : z00) (x : Wr) : (act a x).f_out = a.f_out ++ x.ws := rfl
/-- Is it one name? -/
def z1v (s : ByteArray) : Bool :=
 let v := finT s.size (lexS s.data.toList 0)
 v.2.2 == 0 && (v.1.length : Int) == 1 && (match v.1 with | t :: _ => t.Kind == 1 && t.Text.toList == s.toList | [] => false)
def zcz (n : Int) : Bool := decide (n ≥ 0) && decide (n ≤ 2147483647)
def wN (s : ByteArray) : Wr := ⟨[s], !z1v s, false⟩
def wI (n : Int) : Wr := ⟨[zax n], !zcz n, false⟩
/-- Room for so many more words. -/
def Room (a : z00) (n : Nat) : Prop := a.f_out.length + n ≤ 8796093022208
theorem Room.act {a : z00} {n : Nat} {x : Wr} (h : Room a n) {m : Nat} (hm : x.ws.length + m ≤ n) : Room (act a x) m := by
 unfold Room at *; rw [zbw, List.length_append]; omega
theorem Room.le {a : z00} {n m : Nat} (h : Room a n) (hm : m ≤ n) : Room a m := by unfold Room at *; omega
theorem z2x {a : z00} {l : List ByteArray} (h : Room a l.length) : z03 a l = some (act a (wW l)) := by
 unfold z03
 rw [z6r (by unfold Room at h; omega)]
 simp [act, wW]
theorem z9b (a : z00) (ok : Bool) : z0z a ok = some (act a (wM ok)) := by
 unfold z0z act wM
 cases a with | mk o f d b p => cases f <;> simp
theorem z54 {a : z00} {s : ByteArray} (h : Room a 1) (hs : s.size ≤ 4194304) : z0h a s = some (act a (wN s)) := by
 unfold z0h
 rw [zo1 s hs]
 simp only [Option.bind_eq_bind, Option.bind_some, z9b]
 have hw : wM (z1v s) ++ wW [s] = wN s := by simp [wM, wW, wN, Wr.app_def]
 have hput : ∀ x : Wr, x.ws = [] → z03 (act a x) [s] = some (act a (x ++ wW [s])) := fun x hx => by
  rw [z2x (Room.act h (by rw [hx]; simp)), z0v]
 rw [← hw, ← hput _ rfl]
 unfold z1v
 generalize finT s.size (lexS s.data.toList 0) = v
 obtain ⟨l, p, e⟩ := v
 by_cases he : e = 0
 ·subst he
  match l with
  | [] => simp [act]
  | [t] =>
   have : idx [t] 0 = some t := rfl
   by_cases hk : t.Kind = 1
   ·simp [this, hk, act]
   ·have hk' : (t.Kind == 1) = false := by simpa using hk
    simp [this, hk, hk', act]
  | t :: t' :: r =>
   have : ¬ ((r.length : Int) + 1 + 1 = 1) := by omega
   have h2 : ((r.length : Int) + 1 + 1 == 1) = false := by simpa using this
   simp [this, h2, act]
 ·have he' : (e == 0) = false := by simpa using he
  simp [he', act]
theorem z8c {a : z00} {n : Int} (h : Room a 1) (h0 : -9223372036854775808 ≤ n) (h1 : n ≤ 9223372036854775807) : z1g a n = some (act a (wI n)) := by
 unfold z1g
 have hi : itoa n = some (zax n) := by unfold itoa; rw [if_pos ⟨h0, h1⟩]
 have hw : wM (zcz n) ++ wW [zax n] = wI n := by simp [wM, wW, wI, Wr.app_def]
 have hput : ∀ x : Wr, x.ws = [] → z03 (act a x) [zax n] = some (act a (x ++ wW [zax n])) := fun x hx => by
  rw [z2x (Room.act h (by rw [hx]; simp)), z0v]
 rw [← hw, ← hput _ rfl]
 simp only [Option.bind_eq_bind, Option.bind_some, z9b, hi]
 unfold zcz
 by_cases hn : n ≥ 0
 ·simp [hn, act]
 ·simp [hn, act]
/-! ### Expressions -/
mutual
def szE : z09 → Nat
 | ⟨_, _, _, l⟩ => 1 + szEs l
def szEs : List z09 → Nat
 | [] => 0
 | e :: r => szE e + szEs r
end
def sumK (k : Int) : Bool := k == 4 || k == 5
def z5w (k : Int) : Bool := decide (k ≥ 4) && decide (k ≤ 8)
theorem zp4 (k : Int) : z6o k = some (sumK k) := by unfold z6o sumK; cases (k == 4) <;> simp
theorem zd4 (k : Int) : z6b k = some (z5w k) := by unfold z6b z5w; by_cases h : k ≥ 4 <;> simp [h]
def zaz (k : Int) : ByteArray := match k with
 | 4 => ByteArray.mk #[43] | 5 => ByteArray.mk #[45] | 6 => ByteArray.mk #[42] | 7 => ByteArray.mk #[47] | _ => ByteArray.mk #[37]
theorem zki {k : Int} (h : z5w k = true) : idx [(ByteArray.mk #[43]), (ByteArray.mk #[45]), (ByteArray.mk #[42]), (ByteArray.mk #[47]), (ByteArray.mk #[37])] (IntKind.i64.wrap (k - 4)) = some (zaz k) := by
 unfold z5w at h
 simp only [Bool.and_eq_true, decide_eq_true_eq] at h
 have : k = 4 ∨ k = 5 ∨ k = 6 ∨ k = 7 ∨ k = 8 := by omega
 rcases this with rfl | rfl | rfl | rfl | rfl <;> rfl
def z94 (e : z09) : Wr := wM ((e.Kids.length : Int) == 0) ++ (if e.Kind == 1 then wI e.Num else wM (e.Kind == 2) ++ wN e.Name)
/-- A kid, in ( and ), if it must. -/
def inP (must : Bool) (f : Int → Wr) (p : Int) : Wr := if must then wW [(ByteArray.mk #[40])] ++ (wD (p + 1) ++ (f (p + 1) ++ wW [(ByteArray.mk #[41])])) else f p
def sE (e : z09) (p : Int) : Wr :=
 match e with
 | ⟨k, n, s, [x]⟩ => if k == 3 then wW [(ByteArray.mk #[45])] ++ (wD (p + 1) ++ inP (z5w x.Kind) (sE x) (p + 1)) else z94 ⟨k, n, s, [x]⟩
 | ⟨k, n, s, [l, r]⟩ => if z5w k then inP (!sumK k && sumK l.Kind) (sE l) p ++ (wW [zaz k] ++ inP (sumK r.Kind || (!sumK k && z5w r.Kind)) (sE r) p) else z94 ⟨k, n, s, [l, r]⟩
 | ⟨k, n, s, l⟩ => z94 ⟨k, n, s, l⟩
theorem zbx (m : Bool) (f : Int → Wr) (p : Int) (c : Nat) (h : ∀ q, (f q).ws.length ≤ c) : (inP m f p).ws.length ≤ c + 2 := by
 unfold inP
 split
 ·have := h (p + 1); simp [wW, wD]; omega
 ·have := h p; omega
theorem z8d (e : z09) : (z94 e).ws.length ≤ 1 := by
 unfold z94
 split <;> simp [wM, wI, wN]
theorem z6s : ∀ (e : z09) (p : Int), (sE e p).ws.length ≤ 5 * szE e
 | ⟨k, n, s, []⟩, p => by
  have := z8d ⟨k, n, s, []⟩
  simp only [sE, szE, szEs]; omega
 | ⟨k, n, s, [x]⟩, p => by
  have := z8d ⟨k, n, s, [x]⟩
  simp only [sE, szE, szEs]
  split
  ·have := zbx (z5w x.Kind) (sE x) (p + 1) (5 * szE x) (z6s x)
   simp [wW, wD]; omega
  ·omega
 | ⟨k, n, s, [l, r]⟩, p => by
  have := z8d ⟨k, n, s, [l, r]⟩
  simp only [sE, szE, szEs]
  split
  ·have := zbx (!sumK k && sumK l.Kind) (sE l) p (5 * szE l) (z6s l)
   have := zbx (sumK r.Kind || (!sumK k && z5w r.Kind)) (sE r) p (5 * szE r) (z6s r)
   simp [wW]; omega
  ·omega
 | ⟨k, n, s, a :: b :: c :: l⟩, p => by
  have := z8d ⟨k, n, s, a :: b :: c :: l⟩
  simp only [sE, szE, szEs]; omega
/-- Numbers and names that a walk can read. -/
def in64 (n : Int) : Prop := -9223372036854775808 ≤ n ∧ n ≤ 9223372036854775807
mutual
def okE : z09 → Prop
 | ⟨_, n, s, l⟩ => in64 n ∧ s.size ≤ 4194304 ∧ okEs l
def okEs : List z09 → Prop
 | [] => True
 | e :: r => okE e ∧ okEs r
end
theorem w64p {p : Int} (h0 : 0 ≤ p) (h1 : p ≤ 4611686018427387904) : IntKind.i64.wrap (p + 1) = p + 1 := w64 (by omega) (by omega)
theorem w64m {p : Int} (h0 : 0 ≤ p) (h1 : p ≤ 4611686018427387904) : IntKind.i64.wrap (p + 1 - 1) = p := by rw [show p + 1 - 1 = p by omega]; exact w64 (by omega) (by omega)
/-- What is asked of a writer: its depths are small. -/
def Lo (a : z00) (n : Nat) : Prop := 0 ≤ a.f_parens ∧ a.f_parens + n ≤ 4611686018427387904
theorem Lo.act {a : z00} {n m : Nat} {x : Wr} (h : Lo a n) (hm : m ≤ n) : Lo (act a x) m := ⟨h.1, by have := h.2; simp; omega⟩
theorem Lo.le {a : z00} {n m : Nat} (h : Lo a n) (hm : m ≤ n) : Lo a m := ⟨h.1, by have := h.2; omega⟩
/-- One deeper, as deeper does it. -/
def dn (a : z00) : z00 := ⟨a.f_out, a.f_form, a.f_deep || decide (a.f_parens + 1 > 24), a.f_blocks, a.f_parens + 1⟩
theorem zj1 (a : z00) (x : Wr) : z00.mk (act (dn a) x).f_out (act (dn a) x).f_form (act (dn a) x).f_deep (act (dn a) x).f_blocks a.f_parens = act a (wD (a.f_parens + 1) ++ x) := by
 simp [act, dn, wD, Bool.or_assoc]
theorem zoa {a : z00} {n : Nat} (h : Lo a (n + 1)) : (if a.f_deep then (some true) else (some (decide ((IntKind.i64.wrap (a.f_parens + 1)) > 24))) : Option Bool) = some (a.f_deep || decide (a.f_parens + 1 > 24)) ∧ IntKind.i64.wrap (a.f_parens + 1) = a.f_parens + 1 := by
 have := w64p h.1 (by have := h.2; omega)
 rw [this]
 refine ⟨?_, rfl⟩
 cases a.f_deep <;> simp
def ExOk (e : z09) : Prop := ∀ n a, Lo a (2 * szE e) → Room a (5 * szE e) → Sn n (8 * szE e) (z0s n a e) (act a (sE e a.f_parens))
theorem zkj {e : z09} (h : ExOk e) (n : Nat) (a : z00) (m : Bool) (hl : Lo a (2 * szE e + 1)) (hr : Room a (5 * szE e + 2)) : Sn n (8 * szE e + 4) (z0u n a e m) (act a (inP m (sE e) a.f_parens)) := by
 cases n with
 | zero => exact .inr ⟨by simp [z0u], by omega⟩
 | succ n =>
  cases m with
  | false =>
   simp only [z0u, inP, Bool.not_false, if_true, Bool.false_eq_true, if_false]
   exact (((h n a (hl.le (by omega)) (hr.le (by omega))).bind (f := fun v1 => some v1) (.inl rfl)).mono (by omega : 8 * szE e ≤ 8 * szE e + 3)).up
  | true =>
   simp only [z0u, inP, Bool.not_true, Bool.false_eq_true, if_false, if_true]
   rw [z2x (hr.le (by simp))]
   simp only [Option.bind_eq_bind, Option.bind_some]
   have hl1 : Lo (act a (wW [ByteArray.mk #[40]])) (2 * szE e + 1) := hl.act (Nat.le_refl _)
   obtain ⟨e1, e2⟩ := zoa hl1
   have key : Sn n (8 * szE e + 2) (z0c n (act a (wW [ByteArray.mk #[40]])) e) (act (act a (wW [ByteArray.mk #[40]])) (wD (a.f_parens + 1) ++ sE e (a.f_parens + 1))) := by
    cases n with
    | zero => exact .inr ⟨by simp [z0c], by omega⟩
    | succ n =>
     simp only [z0c]
     rw [e1]
     simp only [Option.bind_eq_bind, Option.bind_some]
     rw [e2]
     have hd : Lo (dn (act a (wW [ByteArray.mk #[40]]))) (2 * szE e) := ⟨by have := hl.1; simp [dn]; omega, by have := hl.2; simp [dn]; omega⟩
     have hrm : Room (dn (act a (wW [ByteArray.mk #[40]]))) (5 * szE e) := by unfold Room at *; simp [dn, zbw, wW]; omega
     have k1 : Sn n (8 * szE e + 1) (z16 n (dn (act a (wW [ByteArray.mk #[40]]))) e) (act (dn (act a (wW [ByteArray.mk #[40]]))) (sE e (a.f_parens + 1))) := by
      cases n with
      | zero => exact .inr ⟨by simp [z16], by omega⟩
      | succ n =>
       simp only [z16]
       exact ((h n _ hd hrm).bind (f := fun v1 => some v1) (.inl rfl)).up
     refine (k1.bind (f := fun v1 => some (z00.mk v1.f_out v1.f_form v1.f_deep v1.f_blocks (IntKind.i64.wrap (v1.f_parens - 1)))) (.inl ?_)).up
     refine congrArg some ?_
     have hb := zj1 (act a (wW [ByteArray.mk #[40]])) (sE e (a.f_parens + 1))
     simp only [z1y] at hb
     refine Eq.trans ?_ hb
     have : IntKind.i64.wrap ((act (dn (act a (wW [ByteArray.mk #[40]]))) (sE e (a.f_parens + 1))).f_parens - 1) = a.f_parens := by
      show IntKind.i64.wrap (a.f_parens + 1 - 1) = a.f_parens
      exact w64m hl.1 (by have := hl.2; omega)
     rw [this]
   refine ((key.bind (f := fun v3 => z03 v3 [ByteArray.mk #[41]] >>= fun v4 => some v4) (.inl ?_)).mono (by omega : 8 * szE e + 2 ≤ 8 * szE e + 3)).up
   have hlen := z6s e (a.f_parens + 1)
   rw [z2x]
   ·simp only [Option.bind_eq_bind, Option.bind_some, z0v, Wr.assoc]
   ·unfold Room at *; simp [zbw, wW, wD]; omega
end Go.Proofs.YtnfjgjomokloaaaDoor.Abs.Wri
/- The writer's expressions and comparisons are what WrA says. -/
namespace Go.Proofs.YtnfjgjomokloaaaDoor.Abs.Wri
open Go Go.RowKit
set_option linter.unusedVariables false
set_option linter.unusedSimpArgs false
theorem zfi {a : z00} {e : z09} (hn : in64 e.Num) (hs : e.Name.size ≤ 4194304) (hr : Room a 1) : z3k a e = some (act a (z94 e)) := by
 unfold z3k z94
 have hr0 : ∀ b, Room (act a (wM b)) 1 := fun b => hr.act (by simp [wM])
 have hr1 : ∀ b c, Room (act (act a (wM b)) (wM c)) 1 := fun b c => (hr0 b).act (by simp [wM])
 simp only [z9b, Option.bind_eq_bind, Option.bind_some, z8c (hr0 _) hn.1 hn.2, z54 (hr1 _ _) hs]
 cases (e.Kind == 1) <;> simp [z0v, Wr.assoc]
theorem zmp {k m : Int} {s : ByteArray} {x : z09} (h : ExOk x) (n : Nat) (a : z00) (hl : Lo a (2 * szE x + 1)) (hr : Room a (5 * szE x + 2)) :
  Sn n (8 * szE x + 5) (z13 n a ⟨k, m, s, [x]⟩) (act a (inP (z5w x.Kind) (sE x) a.f_parens)) := by
 cases n with
 | zero => exact .inr ⟨by simp [z13], by omega⟩
 | succ n =>
  simp only [z13]
  rw [show idx (z09.mk k m s [x]).Kids 0 = some x from rfl]
  simp only [Option.bind_eq_bind, Option.bind_some, zd4]
  exact ((zkj h n a (z5w x.Kind) hl hr).bind (f := fun v3 => some v3) (.inl rfl)).up
theorem zj2 {k m : Int} {s : ByteArray} {x : z09} (h : ExOk x) (n : Nat) (a : z00) (hl : Lo a (2 * szE x + 2)) (hr : Room a (5 * szE x + 2)) :
  Sn n (8 * szE x + 6) (z0a n a ⟨k, m, s, [x]⟩) (act a (wD (a.f_parens + 1) ++ inP (z5w x.Kind) (sE x) (a.f_parens + 1))) := by
 cases n with
 | zero => exact .inr ⟨by simp [z0a], by omega⟩
 | succ n =>
  obtain ⟨e1, e2⟩ := zoa hl
  simp only [z0a]
  rw [e1]
  simp only [Option.bind_eq_bind, Option.bind_some]
  rw [e2]
  have hd : Lo (dn a) (2 * szE x + 1) := ⟨by have := hl.1; simp [dn]; omega, by have := hl.2; simp [dn]; omega⟩
  have hrm : Room (dn a) (5 * szE x + 2) := hr
  refine ((zmp (k := k) (m := m) (s := s) h n (dn a) hd hrm).bind (f := fun v1 => some (z00.mk v1.f_out v1.f_form v1.f_deep v1.f_blocks (IntKind.i64.wrap (v1.f_parens - 1)))) (.inl ?_)).up
  refine congrArg some ?_
  refine Eq.trans ?_ (zj1 a _)
  have : IntKind.i64.wrap ((act (dn a) (inP (z5w x.Kind) (sE x) (a.f_parens + 1))).f_parens - 1) = a.f_parens := by
   show IntKind.i64.wrap (a.f_parens + 1 - 1) = a.f_parens
   exact w64m hl.1 (by have := hl.2; omega)
  show z00.mk _ _ _ _ (IntKind.i64.wrap ((act (dn a) (inP (z5w x.Kind) (sE x) (a.f_parens + 1))).f_parens - 1)) = _
  rw [this]; rfl
theorem zby : ∀ e : z09, okE e → ExOk e
 | ⟨k, m, s, []⟩, ho, n, a, hl, hr => by
  simp only [okE] at ho
  cases n with
  | zero => exact .inr ⟨by simp [z0s], by simp only [szE]; omega⟩
  | succ n =>
   refine .inl ?_
   have hlf := zfi (e := ⟨k, m, s, []⟩) ho.1 ho.2.1 (hr.le (by simp only [szE]; omega))
   simp only [z0s, sE, zd4, Option.bind_eq_bind, Option.bind_some, hlf]
   cases (k == 3) <;> cases (z5w k) <;> simp
 | ⟨k, m, s, [x]⟩, ho, n, a, hl, hr => by
  simp only [okE, okEs] at ho
  have hx := zby x ho.2.2.1
  simp only [szE, szEs] at hl hr
  cases n with
  | zero => exact .inr ⟨by simp [z0s], by simp only [szE]; omega⟩
  | succ n =>
   simp only [z0s, sE, zd4, Option.bind_eq_bind, Option.bind_some]
   by_cases hk : (k == 3) = true
   ·have h1 : ((([x] : List z09).length : Int) == 1) = true := rfl
    simp only [hk, if_true, h1, Option.bind_some]
    rw [z2x (hr.le (by simp; omega))]
    simp only [Option.bind_some]
    have hr1 : Room (act a (wW [ByteArray.mk #[45]])) (5 * szE x + 2) := hr.act (by simp [wW]; omega)
    refine (((zj2 (k := k) (m := m) (s := s) hx n (act a (wW [ByteArray.mk #[45]])) (hl.act (by omega)) hr1).bind (f := fun v2 => some v2) (.inl ?_)).mono (by simp only [szE, szEs]; omega : 8 * szE x + 6 ≤ 8 * szE ⟨k, m, s, [x]⟩ - 1)).up.mono (by simp only [szE]; omega)
    simp only [z0v, z1y]
   ·have hk : (k == 3) = false := by simpa using hk
    refine .inl ?_
    have hlf := zfi (e := ⟨k, m, s, [x]⟩) ho.1 ho.2.1 (hr.le (by omega))
    simp only [hk, hlf, Bool.false_eq_true, if_false, Option.bind_some]
    cases (z5w k) <;> simp
 | ⟨k, m, s, [l, r]⟩, ho, n, a, hl, hr => by
  simp only [okE, okEs] at ho
  have hL := zby l ho.2.2.1
  have hR := zby r ho.2.2.2.1
  simp only [szE, szEs] at hl hr
  cases n with
  | zero => exact .inr ⟨by simp [z0s], by simp only [szE]; omega⟩
  | succ n =>
   have h3 : ((if (k == 3) = true then some ((([l, r] : List z09).length : Int) == 1) else some false) : Option Bool) = some false := by
    split <;> rfl
   simp only [z0s, sE, zd4, zp4, Option.bind_eq_bind, Option.bind_some]
   rw [h3]
   simp only [Option.bind_some, Bool.false_eq_true, if_false]
   by_cases hk : z5w k = true
   ·have h2 : ((([l, r] : List z09).length : Int) == 2) = true := rfl
    rw [if_pos hk, if_pos hk, h2]
    rw [show idx [l, r] 0 = some l from rfl, show idx [l, r] 1 = some r from rfl, zki hk]
    simp only [Option.bind_some, if_true]
    have b1 := zbx (!sumK k && sumK l.Kind) (sE l) a.f_parens (5 * szE l) (z6s l)
    have k1 : Sn n (8 * szE l + 4) ((if (!sumK k) = true then (z0u n a l (sumK l.Kind)).bind fun v8 => some (v8.f_form, v8.f_deep, v8.f_blocks, v8.f_parens, v8.f_out) else (z0u n a l false).bind fun v9 => some (v9.f_form, v9.f_deep, v9.f_blocks, v9.f_parens, v9.f_out)) : Option (Bool × Bool × Int × Int × List ByteArray))
      (let v := act a (inP (!sumK k && sumK l.Kind) (sE l) a.f_parens); (v.f_form, v.f_deep, v.f_blocks, v.f_parens, v.f_out)) := by
     cases hs : sumK k
     ·simp only [Bool.not_false, if_true, Bool.true_and]
      exact (zkj hL n a _ (hl.le (by omega)) (hr.le (by omega))).bind (f := fun v8 => some (v8.f_form, v8.f_deep, v8.f_blocks, v8.f_parens, v8.f_out)) (.inl rfl)
     ·simp only [Bool.not_true, Bool.false_eq_true, if_false, Bool.false_and]
      exact (zkj hL n a _ (hl.le (by omega)) (hr.le (by omega))).bind (f := fun v8 => some (v8.f_form, v8.f_deep, v8.f_blocks, v8.f_parens, v8.f_out)) (.inl rfl)
    refine ((k1.mono (by simp only [szE, szEs]; omega : 8 * szE l + 4 ≤ 8 * szE ⟨k, m, s, [l, r]⟩ - 1)).bind ?_).up.mono (by simp only [szE]; omega)
    have hr2 : Room (act a (inP (!sumK k && sumK l.Kind) (sE l) a.f_parens)) (5 * szE r + 3) := hr.act (by omega)
    show Sn n _ ((z03 (act a (inP (!sumK k && sumK l.Kind) (sE l) a.f_parens)) [zaz k]).bind _) _
    rw [z2x (hr2.le (by simp))]
    simp only [Option.bind_some, z0v]
    have hr3 : Room (act a (inP (!sumK k && sumK l.Kind) (sE l) a.f_parens ++ wW [zaz k])) (5 * szE r + 2) := by
     rw [← z0v]; exact hr2.act (by simp [wW]; omega)
    have k2 : ∀ mm, Sn n (8 * szE ⟨k, m, s, [l, r]⟩ - 1) ((z0u n (act a (inP (!sumK k && sumK l.Kind) (sE l) a.f_parens ++ wW [zaz k])) r mm).bind fun v => some v)
      (act a (inP (!sumK k && sumK l.Kind) (sE l) a.f_parens ++ (wW [zaz k] ++ inP mm (sE r) a.f_parens))) := fun mm => by
     have := zkj hR n (act a (inP (!sumK k && sumK l.Kind) (sE l) a.f_parens ++ wW [zaz k])) mm (hl.act (by omega)) hr3
     rw [z0v, z1y, Wr.assoc] at this
     exact (this.bind (f := fun v => some v) (.inl rfl)).mono (by simp only [szE, szEs]; omega)
    cases hsr : sumK r.Kind
    ·simp only [Bool.false_eq_true, if_false, Bool.false_or]
     cases hs : sumK k
     ·simp only [Bool.not_false, if_true, Bool.true_and]
      have := k2 (z5w r.Kind)
      rw [hs] at this; exact this
     ·simp only [Bool.not_true, Bool.false_eq_true, if_false, Bool.false_and]
      have := k2 false
      rw [hs] at this; exact this
    ·simp only [if_true, Bool.true_or]
     exact k2 true
   ·have hk : z5w k = false := by simpa using hk
    refine .inl ?_
    have hlf := zfi (e := ⟨k, m, s, [l, r]⟩) ho.1 ho.2.1 (hr.le (by omega))
    simp only [hk, hlf, Bool.false_eq_true, if_false, Option.bind_some]
 | ⟨k, m, s, x :: y :: z :: t⟩, ho, n, a, hl, hr => by
  simp only [okE] at ho
  cases n with
  | zero => exact .inr ⟨by simp [z0s], by simp only [szE]; omega⟩
  | succ n =>
   refine .inl ?_
   have hlf := zfi (e := ⟨k, m, s, x :: y :: z :: t⟩) ho.1 ho.2.1 (hr.le (by simp only [szE]; omega))
   have h1 : (((x :: y :: z :: t).length : Int) == 1) = false := by simp only [List.length_cons]; simp; omega
   have h2 : (((x :: y :: z :: t).length : Int) == 2) = false := by simp only [List.length_cons]; simp; omega
   simp only [z0s, sE, zd4, Option.bind_eq_bind, Option.bind_some, hlf, h1, h2]
   cases (k == 3) <;> cases (z5w k) <;> simp
theorem zd5 {a : z00} {e : z09} (ho : okE e) (hl : Lo a (2 * szE e)) (hr : Room a (5 * szE e)) : z2s a e = some (act a (sE e a.f_parens)) :=
 Sn.unf fun n => zby e ho n a hl hr
end Go.Proofs.YtnfjgjomokloaaaDoor.Abs.Wri
/- The writer's comparisons, blocks and statements are what WrA says. -/
namespace Go.Proofs.YtnfjgjomokloaaaDoor.Abs.Wri
open Go Go.RowKit
set_option linter.unusedVariables false
set_option linter.unusedSimpArgs false
def szC (c : z31) : Nat := 1 + szE c.L + szE c.R
def okC (c : z31) : Prop := okE c.L ∧ okE c.R
def opOk (k : Int) : Bool := decide (k ≥ 1) && decide (k ≤ 6)
def opW (k : Int) : ByteArray := match k with
 | 1 => ByteArray.mk #[61, 61] | 2 => ByteArray.mk #[33, 61] | 3 => ByteArray.mk #[60] | 4 => ByteArray.mk #[60, 61] | 5 => ByteArray.mk #[62] | _ => ByteArray.mk #[62, 61]
theorem zob {k : Int} (h : opOk k = true) : idx [(ByteArray.mk #[61, 61]), (ByteArray.mk #[33, 61]), (ByteArray.mk #[60]), (ByteArray.mk #[60, 61]), (ByteArray.mk #[62]), (ByteArray.mk #[62, 61])] (IntKind.i64.wrap (k - 1)) = some (opW k) := by
 unfold opOk at h
 simp only [Bool.and_eq_true, decide_eq_true_eq] at h
 have : k = 1 ∨ k = 2 ∨ k = 3 ∨ k = 4 ∨ k = 5 ∨ k = 6 := by omega
 rcases this with rfl | rfl | rfl | rfl | rfl | rfl <;> rfl
def sC (c : z31) (p : Int) : Wr := wW [(ByteArray.mk #[40])] ++ (sE c.L p ++ ((if opOk c.Op then wW [opW c.Op] else wM false) ++ (sE c.R p ++ wW [(ByteArray.mk #[41])])))
theorem zl5 (c : z31) (p : Int) : (sC c p).ws.length ≤ 5 * szC c := by
 have h1 := z6s c.L p
 have h2 := z6s c.R p
 unfold sC szC
 split <;> simp [wW, wM] <;> omega
theorem zj3 {a : z00} {c : z31} (ho : okC c) (hl : Lo a (2 * szC c)) (hr : Room a (5 * szC c)) : z2t a c = some (act a (sC c a.f_parens)) := by
 unfold z2t sC
 unfold szC at hl hr
 have h1 := z6s c.L a.f_parens
 have h2 := z6s c.R a.f_parens
 have r1 : Room (act a (wW [ByteArray.mk #[40]])) (5 * szE c.L + 5 * szE c.R + 3) := hr.act (by simp [wW]; omega)
 rw [z2x (hr.le (by simp; omega))]
 simp only [Option.bind_eq_bind, Option.bind_some]
 rw [zd5 ho.1 (hl.act (by omega)) (r1.le (by omega))]
 have r2 : Room (act (act a (wW [ByteArray.mk #[40]])) (sE c.L a.f_parens)) (5 * szE c.R + 3) := r1.act (by omega)
 have hj : ((if decide (c.Op < 1) = true then some true else some (decide (c.Op > 6))) : Option Bool) = some (!opOk c.Op) := by
  unfold opOk
  by_cases h : c.Op < 1
  ·have : ¬ (c.Op ≥ 1) := by omega
   simp [h, this]
  ·have : c.Op ≥ 1 := by omega
   simp only [h, this, decide_false, decide_true, Bool.false_eq_true, if_false, Bool.true_and]
   by_cases h6 : c.Op > 6
   ·have : ¬ c.Op ≤ 6 := by omega
    simp [h6, this]
   ·have : c.Op ≤ 6 := by omega
    simp [h6, this]
 simp only [Option.bind_some, z1y, hj, z9b]
 cases hok : opOk c.Op
 ·simp only [Bool.not_false, if_true, Bool.false_eq_true, if_false]
  have r3 : Room (act (act (act a (wW [ByteArray.mk #[40]])) (sE c.L a.f_parens)) (wM false)) (5 * szE c.R + 3) := r2.act (by simp [wM])
  rw [zd5 ho.2 (((hl.act (Nat.le_refl _)).act (Nat.le_refl _)).act (by omega)) (r3.le (by omega))]
  simp only [Option.bind_some, z1y]
  rw [z2x (r3.act (m := 1) (by omega))]
  simp only [Option.bind_some, z0v, Wr.assoc]
 ·simp only [Bool.not_true, if_true, Bool.false_eq_true, if_false, zob hok, Option.bind_some]
  rw [z2x (r2.le (by simp))]
  simp only [Option.bind_some]
  have r3 : Room (act (act (act a (wW [ByteArray.mk #[40]])) (sE c.L a.f_parens)) (wW [opW c.Op])) (5 * szE c.R + 2) := r2.act (by simp [wW]; omega)
  rw [zd5 ho.2 (((hl.act (Nat.le_refl _)).act (Nat.le_refl _)).act (by omega)) (r3.le (by omega))]
  simp only [Option.bind_some, z1y]
  rw [z2x (r3.act (m := 1) (by omega))]
  simp only [Option.bind_some, z0v, Wr.assoc]
/-! ### Statements -/
mutual
def szS : z07 → Nat
 | .mk _ _ _ e c b l a => 4 + szE e + szC c + szL b + szL l + szA a
def szL : List z07 → Nat
 | [] => 1
 | s :: r => szS s + szL r
def szA : List z1c → Nat
 | [] => 1
 | .mk _ _ b :: r => 2 + szL b + szA r
end
mutual
def okS : z07 → Prop
 | .mk _ n t e c b l a => n.size ≤ 4194304 ∧ t.size ≤ 4194304 ∧ okE e ∧ okC c ∧ okL b ∧ okL l ∧ okA a
def okL : List z07 → Prop
 | [] => True
 | s :: r => okS s ∧ okL r
def okA : List z1c → Prop
 | [] => True
 | .mk t v b :: r => t.size ≤ 4194304 ∧ v.size ≤ 4194304 ∧ okL b ∧ okA r
end
/-- A block's words, of its statements'. -/
def inB (f : Int → Wr) (b : Int) : Wr := wW [(ByteArray.mk #[123])] ++ (wD (b + 1) ++ (f (b + 1) ++ wW [(ByteArray.mk #[125])]))
mutual
def sS : z07 → Int → Int → Wr
 | .mk k n t e c bo el ar, b, p =>
  if k == 1 then wN n ++ (wW [(ByteArray.mk #[61])] ++ (sE e p ++ wW [(ByteArray.mk #[59])]))
  else if k == 2 then wW [(ByteArray.mk #[105, 102])] ++ (sC c p ++ (inB (fun q => sL bo q p) b ++ (if el.isEmpty then Wr.nil else wW [(ByteArray.mk #[101, 108, 115, 101])] ++ inB (fun q => sL el q p) b)))
  else if k == 3 then wW [(ByteArray.mk #[119, 104, 105, 108, 101])] ++ (sC c p ++ inB (fun q => sL bo q p) b)
  else if k == 4 then wW [(ByteArray.mk #[115, 101, 110, 100])] ++ (wN n ++ (wW [(ByteArray.mk #[46])] ++ (wN t ++ (wW [(ByteArray.mk #[40])] ++ (sE e p ++ wW [(ByteArray.mk #[41]), (ByteArray.mk #[59])])))))
  else if k == 5 then wW [(ByteArray.mk #[114, 101, 99, 118])] ++ (wN n ++ (wM (!ar.isEmpty) ++ (wW [(ByteArray.mk #[123])] ++ (sA ar b p ++ wW [(ByteArray.mk #[125])]))))
  else if k == 6 then wW [(ByteArray.mk #[97, 115, 115, 101, 114, 116])] ++ (sC c p ++ wW [(ByteArray.mk #[59])])
  else if k == 7 then wW [(ByteArray.mk #[105, 110, 112, 117, 116])] ++ (wN n ++ wW [(ByteArray.mk #[59])])
  else wM false
def sL : List z07 → Int → Int → Wr
 | [], _, _ => Wr.nil
 | s :: r, b, p => sS s b p ++ sL r b p
def sA : List z1c → Int → Int → Wr
 | [], _, _ => Wr.nil
 | .mk t v bo :: r, b, p => wN t ++ (wW [(ByteArray.mk #[40])] ++ (wN v ++ (wW [(ByteArray.mk #[41])] ++ (inB (fun q => sL bo q p) b ++ sA r b p))))
end
theorem z95 (f : Int → Wr) (b : Int) (c : Nat) (h : ∀ q, (f q).ws.length ≤ c) : (inB f b).ws.length ≤ c + 2 := by
 have := h (b + 1)
 unfold inB; simp [wW, wD]; omega
mutual
theorem zl6 : ∀ (s : z07) (b p : Int), (sS s b p).ws.length ≤ 5 * szS s
 | .mk k n t e c bo el ar, b, p => by
  have h1 := z6s e p
  have h2 := zl5 c p
  have h3 := z95 (fun q => sL bo q p) b _ fun q => z7c bo q p
  have h4 := z95 (fun q => sL el q p) b _ fun q => z7c el q p
  have h5 := zfj ar b p
  have h6 := z43 bo
  have h7 := z43 el
  have h8 := zal ar
  simp only [sS, szS]
  split
  ·simp [wN, wW]; omega
  ·split
   ·split <;> simp [wN, wW, Wr.nil] <;> omega
   ·split
    ·simp [wN, wW]; omega
    ·split
     ·simp [wN, wW]; omega
     ·split
      ·simp [wN, wW, wM]; omega
      ·split
       ·simp [wW]; omega
       ·split
        ·simp [wN, wW]; omega
        ·simp [wM]
theorem z7c : ∀ (l : List z07) (b p : Int), (sL l b p).ws.length ≤ 5 * szL l
 | [], b, p => by simp [sL, Wr.nil]
 | s :: r, b, p => by
  have := zl6 s b p
  have := z7c r b p
  simp only [sL, szL, Wr.ws_app, List.length_append]; omega
theorem zfj : ∀ (l : List z1c) (b p : Int), (sA l b p).ws.length ≤ 5 * szA l
 | [], b, p => by simp [sA, Wr.nil]
 | .mk t v bo :: r, b, p => by
  have := z95 (fun q => sL bo q p) b _ fun q => z7c bo q p
  have := zfj r b p
  simp only [sA, szA]; simp [wN, wW]; omega
theorem z43 : ∀ l : List z07, 1 ≤ szL l
 | [] => by simp [szL]
 | s :: r => by have := z43 r; simp only [szL]; omega
theorem zal : ∀ l : List z1c, 1 ≤ szA l
 | [] => by simp [szA]
 | .mk t v bo :: r => by simp only [szA]; omega
end
end Go.Proofs.YtnfjgjomokloaaaDoor.Abs.Wri
/- The writer's statements are what WrC says. -/
namespace Go.Proofs.YtnfjgjomokloaaaDoor.Abs.Wri
open Go Go.RowKit
set_option linter.unusedVariables false
set_option linter.unusedSimpArgs false
def Lq (a : z00) (n : Nat) : Prop := Lo a n ∧ 0 ≤ a.f_blocks ∧ a.f_blocks + n ≤ 4611686018427387904
theorem Lq.act {a : z00} {n m : Nat} {x : Wr} (h : Lq a n) (hm : m ≤ n) : Lq (act a x) m := ⟨h.1.act hm, h.2.1, by have := h.2.2; simp; omega⟩
theorem Lq.le {a : z00} {n m : Nat} (h : Lq a n) (hm : m ≤ n) : Lq a m := ⟨h.1.le hm, h.2.1, by have := h.2.2; omega⟩
def tp (a : z00) : Bool × Bool × Int × Int × List ByteArray := (a.f_form, a.f_deep, a.f_blocks, a.f_parens, a.f_out)
def StOk (s : z07) : Prop := ∀ n a, Lq a (2 * szS s) → Room a (5 * szS s) → Sn n (8 * szS s) (z0w n a s) (act a (sS s a.f_blocks a.f_parens))
def LsOk (l : List z07) : Prop := ∀ n a, Lq a (2 * szL l) → Room a (5 * szL l) → Sn n (8 * szL l) (z0t n a l) (act a (sL l a.f_blocks a.f_parens))
theorem zeg : ∀ l : List z07, l.length ≤ szL l
 | [] => by simp
 | s :: r => by
  have := zeg r
  have : 4 ≤ szS s := by cases s; simp only [szS]; omega
  simp only [szL, List.length_cons]; omega
theorem zeh : ∀ l : List z1c, l.length ≤ szA l
 | [] => by simp
 | .mk t v b :: r => by
  have := zeh r
  simp only [szA, List.length_cons]; omega
theorem zh0 {F1 : z00 → List z07 → Option z00} {F3 : z00 → List z07 → Option z00} {F4 : z00 → List z1c → Option z00} (n : Nat) (a1 : List z07) (hlen : a1.length ≤ 4611686018427387904) :
  ∀ (l : List z07) (i : Nat) (a : z00), a1.drop i = l → i ≤ a1.length → (∀ s ∈ l, StOk s) → Lq a (2 * szL l) → Room a (5 * szL l) →
   Sn n (8 * szL l - 8) (iter (z1z F1 (z0w n) F3 F4 a1) ((i : Int), tp a)) (.inr (tp (act a (sL l a.f_blocks a.f_parens)))) := by
 intro l
 induction l with
 | nil =>
  intro i a hd hi hs hq hr
  have : i = a1.length := by have := List.drop_eq_nil_iff.1 hd; omega
  refine .inl (z5s ?_)
  unfold z1z
  rw [if_neg (by simp; omega)]
  simp [sL, Wr.nil, act, tp]
 | cons s r ih =>
  intro i a hd hi hs hq hr
  have hlt : i < a1.length := by
   refine Nat.lt_of_not_le fun h => ?_
   rw [List.drop_of_length_le h] at hd; cases hd
  rw [List.drop_eq_getElem_cons hlt] at hd
  injection hd with h1 h2
  have hi2 : idx a1 (i : Int) = some s := by rw [zfc hlt, h1]
  have hw : IntKind.i64.wrap ((i : Int) + 1) = ((i + 1 : Nat) : Int) := by rw [w64 (by omega) (by omega)]; omega
  have hb : z1z F1 (z0w n) F3 F4 a1 ((i : Int), tp a) = (z0w n a s).bind fun v2 => some (.inl (((i + 1 : Nat) : Int), tp v2)) := by
   unfold z1z
   rw [if_pos (by simp; omega)]
   simp only [hi2, Option.bind_eq_bind, Option.bind_some, hw]
   rfl
  simp only [szL] at hq hr ⊢
  have hp := z43 r
  rw [za2, hb, Option.bind_eq_bind, Option.bind_assoc]
  refine Sn.bind (x := z0w n a s) (((hs s List.mem_cons_self) n a (hq.le (by omega)) (hr.le (by omega))).mono (by omega)) ?_
  have hl := zl6 s a.f_blocks a.f_parens
  have := ih (i + 1) (act a (sS s a.f_blocks a.f_parens)) h2 hlt (fun s hs' => hs s (List.mem_cons_of_mem _ hs')) (hq.act (by omega)) (hr.act (by omega))
  simp only [z4x, z1y, z0v] at this
  simp only [sL]
  exact this.mono (by omega)
theorem z9n {l : List z07} (hs : ∀ s ∈ l, StOk s) : LsOk l := by
 intro n a hq hr
 have hp := z43 l
 cases n with
 | zero => exact .inr ⟨by simp [z0t], by omega⟩
 | succ n =>
  simp only [z0t]
  have hl := zeg l
  have hb := hq.2
  have := zh0 (F1 := z0t n) (F3 := z0o n) (F4 := z0y n) n l (by omega) l 0 a rfl (by omega) hs hq hr
  have hput : Sum.elim (fun _ => (none : Option z00)) (fun j1 => some (z00.mk j1.2.2.2.2 j1.1 j1.2.1 j1.2.2.1 j1.2.2.2.1)) (Sum.inr (tp (act a (sL l a.f_blocks a.f_parens))) : Sum z00 (Bool × Bool × Int × Int × List ByteArray)) = some (act a (sL l a.f_blocks a.f_parens)) := rfl
  have t2 := (Sn.bind this (.inl hput)).up
  exact t2.mono (by omega)
/-! ### Blocks -/
theorem zp5 {p : Int} (h0 : 0 ≤ p) (h1 : p + 1 ≤ 4611686018427387904) : IntKind.i64.wrap (p + 1) = p + 1 := w64 (by omega) (by omega)
theorem z9o {l : List z07} (h : LsOk l) (n : Nat) (a : z00) (hq : Lq a (2 * szL l + 1)) (hr : Room a (5 * szL l + 2)) :
  Sn n (8 * szL l + 1) (z0o n a l) (act a (inB (fun q => sL l q a.f_parens) a.f_blocks)) := by
 cases n with
 | zero => exact .inr ⟨by simp [z0o], by omega⟩
 | succ n =>
  simp only [z0o]
  rw [z2x (hr.le (by simp))]
  simp only [Option.bind_eq_bind, Option.bind_some]
  have hw : IntKind.i64.wrap ((act a (wW [ByteArray.mk #[123]])).f_blocks + 1) = a.f_blocks + 1 := zp5 (p := a.f_blocks) hq.2.1 (by have := hq.2.2; omega)
  have hj : ((if (act a (wW [ByteArray.mk #[123]])).f_deep = true then some true else some (decide (IntKind.i64.wrap ((act a (wW [ByteArray.mk #[123]])).f_blocks + 1) > 24))) : Option Bool) = some (a.f_deep || decide (a.f_blocks + 1 > 24)) := by
   rw [hw]
   simp only [act, wW, Bool.or_false]; cases a.f_deep <;> simp
  rw [hj]
  simp only [Option.bind_some]
  rw [hw]
  generalize hb' : (z00.mk (act a (wW [ByteArray.mk #[123]])).f_out (act a (wW [ByteArray.mk #[123]])).f_form (a.f_deep || decide (a.f_blocks + 1 > 24)) (a.f_blocks + 1) (act a (wW [ByteArray.mk #[123]])).f_parens) = b
  have e1 : b.f_blocks = a.f_blocks + 1 := by rw [← hb']
  have e2 : b.f_parens = a.f_parens := by rw [← hb']; rfl
  have e3 : b.f_out = a.f_out ++ [ByteArray.mk #[123]] := by rw [← hb']; rfl
  have hqb : Lq b (2 * szL l) := ⟨⟨by rw [e2]; exact hq.1.1, by rw [e2]; have := hq.1.2; omega⟩, by rw [e1]; have := hq.2.1; omega, by rw [e1]; have := hq.2.2; omega⟩
  have hrb : Room b (5 * szL l + 1) := by unfold Room at *; rw [e3]; simp; omega
  have hl := z7c l b.f_blocks b.f_parens
  have hw2 : IntKind.i64.wrap ((act b (sL l b.f_blocks b.f_parens)).f_blocks - 1) = a.f_blocks := by
   show IntKind.i64.wrap (b.f_blocks - 1) = _
   rw [e1, show a.f_blocks + 1 - 1 = a.f_blocks by omega]
   exact w64 (by have := hq.2.1; omega) (by have := hq.2.2; omega)
  have he : z00.mk (act b (sL l b.f_blocks b.f_parens)).f_out (act b (sL l b.f_blocks b.f_parens)).f_form (act b (sL l b.f_blocks b.f_parens)).f_deep a.f_blocks (act b (sL l b.f_blocks b.f_parens)).f_parens
    = act a (wW [ByteArray.mk #[123]] ++ (wD (a.f_blocks + 1) ++ sL l (a.f_blocks + 1) a.f_parens)) := by
   rw [e1, e2, ← hb']
   simp [act, wW, wD, Bool.or_assoc]
  have hput : (fun v2 => (z03 (z00.mk v2.f_out v2.f_form v2.f_deep (IntKind.i64.wrap (v2.f_blocks - 1)) v2.f_parens) [ByteArray.mk #[125]]).bind fun v3 => some v3) (act b (sL l b.f_blocks b.f_parens)) = some (act a (inB (fun q => sL l q a.f_parens) a.f_blocks)) := by
   show (z03 (z00.mk _ _ _ (IntKind.i64.wrap ((act b (sL l b.f_blocks b.f_parens)).f_blocks - 1)) _) _).bind _ = _
   rw [hw2, he, z2x]
   ·simp only [Option.bind_some, z0v, Wr.assoc]; rfl
   ·rw [e1, e2] at hl
    unfold Room at *; simp [zbw, wW, wD]; omega
  have key : ∀ f : z00 → Option z00, f (act b (sL l b.f_blocks b.f_parens)) = some (act a (inB (fun q => sL l q a.f_parens) a.f_blocks)) → Sn (n + 1) (8 * szL l + 1) ((z0t n b l).bind f) (act a (inB (fun q => sL l q a.f_parens) a.f_blocks)) :=
   fun f hf => (Sn.bind (f := f) (h n b hqb (hrb.le (by omega))) (.inl hf)).up
  refine key _ ?_
  exact hput
/-! ### Arms -/
theorem zj4 {F1 : z00 → List z07 → Option z00} {F2 : z00 → z07 → Option z00} {F4 : z00 → List z1c → Option z00} (n : Nat) (a1 : List z1c) (hlen : a1.length ≤ 4611686018427387904) :
  ∀ (l : List z1c) (i : Nat) (a : z00), a1.drop i = l → i ≤ a1.length → (∀ x ∈ l, LsOk x.Body) → okA l → Lq a (2 * szA l) → Room a (5 * szA l) →
   Sn n (8 * szA l - 8) (iter (z2a F1 F2 (z0o n) F4 a1) ((i : Int), tp a)) (.inr (tp (act a (sA l a.f_blocks a.f_parens)))) := by
 intro l
 induction l with
 | nil =>
  intro i a hd hi hs ho hq hr
  have : i = a1.length := by have := List.drop_eq_nil_iff.1 hd; omega
  refine .inl (z5s ?_)
  unfold z2a
  rw [if_neg (by simp; omega)]
  simp [sA, Wr.nil, act, tp]
 | cons s r ih =>
  intro i a hd hi hs ho hq hr
  obtain ⟨t, v, bo⟩ := s
  have hlt : i < a1.length := by
   refine Nat.lt_of_not_le fun h => ?_
   rw [List.drop_of_length_le h] at hd; cases hd
  rw [List.drop_eq_getElem_cons hlt] at hd
  injection hd with h1 h2
  have hi2 : idx a1 (i : Int) = some (.mk t v bo) := by rw [zfc hlt, h1]
  have hw : IntKind.i64.wrap ((i : Int) + 1) = ((i + 1 : Nat) : Int) := by rw [w64 (by omega) (by omega)]; omega
  simp only [okA] at ho
  simp only [szA] at hq hr ⊢
  have hp := zal r
  have hpl := z43 bo
  have r1 : Room (act a (wN t)) (5 * szL bo + 5 * szA r + 9) := hr.act (by simp [wN]; omega)
  have r2 : Room (act a (wN t ++ wW [ByteArray.mk #[40]])) (5 * szL bo + 5 * szA r + 8) := hr.act (by simp [wN, wW]; omega)
  have r3 : Room (act a (wN t ++ (wW [ByteArray.mk #[40]] ++ wN v))) (5 * szL bo + 5 * szA r + 7) := hr.act (by simp [wN, wW]; omega)
  have r4 : Room (act a (wN t ++ (wW [ByteArray.mk #[40]] ++ (wN v ++ wW [ByteArray.mk #[41]])))) (5 * szL bo + 5 * szA r + 6) := hr.act (by simp [wN, wW]; omega)
  have hb : z2a F1 F2 (z0o n) F4 a1 ((i : Int), tp a) = (z0o n (act a (wN t ++ (wW [ByteArray.mk #[40]] ++ (wN v ++ wW [ByteArray.mk #[41]])))) bo).bind fun v2 => some (.inl (((i + 1 : Nat) : Int), tp v2)) := by
   unfold z2a
   rw [if_pos (by simp; omega)]
   simp only [hi2, Option.bind_eq_bind, Option.bind_some, hw]
   show (z0h a t).bind _ = _
   rw [z54 (hr.le (by omega)) ho.1]
   simp only [Option.bind_some]
   rw [z2x (r1.le (by simp))]
   simp only [Option.bind_some, z0v]
   show (z0h _ v).bind _ = _
   rw [z54 (r2.le (by omega)) ho.2.1]
   simp only [Option.bind_some, z0v, Wr.assoc]
   rw [z2x (r3.le (by simp))]
   simp only [Option.bind_some, z0v, Wr.assoc]
   rfl
  rw [za2, hb, Option.bind_eq_bind, Option.bind_assoc]
  have hbk := z9o (hs _ List.mem_cons_self) n (act a (wN t ++ (wW [ByteArray.mk #[40]] ++ (wN v ++ wW [ByteArray.mk #[41]])))) (hq.act (by show 2 * szL bo + 1 ≤ _; omega)) (r4.le (by show 5 * szL bo + 2 ≤ _; omega))
  refine Sn.bind (hbk.mono (by show 8 * szL bo + 1 ≤ _; omega)) ?_
  have hl := z95 (fun q => sL bo q a.f_parens) a.f_blocks _ fun q => z7c bo q a.f_parens
  have := ih (i + 1) (act a (wN t ++ (wW [ByteArray.mk #[40]] ++ (wN v ++ (wW [ByteArray.mk #[41]] ++ inB (fun q => sL bo q a.f_parens) a.f_blocks))))) h2 hlt (fun s hs' => hs s (List.mem_cons_of_mem _ hs')) ho.2.2.2 (hq.act (by omega)) (hr.act (by simp [wN, wW]; omega))
  simp only [z4x, z1y, z0v, Wr.assoc] at this ⊢
  simp only [sA]
  exact this.mono (by omega)
theorem zmq {l : List z1c} (hs : ∀ x ∈ l, LsOk x.Body) (ho : okA l) (n : Nat) (a : z00) (hq : Lq a (2 * szA l)) (hr : Room a (5 * szA l + 2)) :
  Sn n (8 * szA l) (z0y n a l) (act a (wM (!l.isEmpty) ++ (wW [ByteArray.mk #[123]] ++ (sA l a.f_blocks a.f_parens ++ wW [ByteArray.mk #[125]])))) := by
 have hp := zal l
 cases n with
 | zero => exact .inr ⟨by simp [z0y], by omega⟩
 | succ n =>
  simp only [z0y]
  have he : (decide ((l.length : Int) > 0)) = !l.isEmpty := by cases l <;> simp
  rw [he, z9b]
  have r1 : Room (act a (wM (!l.isEmpty))) (5 * szA l + 2) := hr.act (by simp [wM])
  simp only [Option.bind_eq_bind, Option.bind_some]
  rw [z2x (r1.le (by simp))]
  simp only [Option.bind_some, z0v]
  have hl := zeh l
  have hb := hq.2
  have r2 : Room (act a (wM (!l.isEmpty) ++ wW [ByteArray.mk #[123]])) (5 * szA l + 1) := hr.act (by simp [wM, wW]; omega)
  have := zj4 (F1 := z0t n) (F2 := z0w n) (F4 := z0y n) n l (by omega) l 0 (act a (wM (!l.isEmpty) ++ wW [ByteArray.mk #[123]])) rfl (by omega) hs ho (hq.act (Nat.le_refl _)) (r2.le (by omega))
  have hA := zfj l a.f_blocks a.f_parens
  have hput : Sum.elim (fun _ => (none : Option z00)) (fun j1 => (z03 (z00.mk j1.2.2.2.2 j1.1 j1.2.1 j1.2.2.1 j1.2.2.2.1) [ByteArray.mk #[125]]).bind fun v9 => some v9) (Sum.inr (tp (act (act a (wM (!l.isEmpty) ++ wW [ByteArray.mk #[123]])) (sA l a.f_blocks a.f_parens))) : Sum z00 (Bool × Bool × Int × Int × List ByteArray)) = some (act a (wM (!l.isEmpty) ++ (wW [ByteArray.mk #[123]] ++ (sA l a.f_blocks a.f_parens ++ wW [ByteArray.mk #[125]])))) := by
   show (z03 (act (act a (wM (!l.isEmpty) ++ wW [ByteArray.mk #[123]])) (sA l a.f_blocks a.f_parens)) [ByteArray.mk #[125]]).bind _ = _
   rw [z2x (r2.act (by simp; omega))]
   simp only [Option.bind_some, z0v, Wr.assoc]
  have t2 := (Sn.bind this (.inl hput)).up
  exact t2.mono (by omega)
end Go.Proofs.YtnfjgjomokloaaaDoor.Abs.Wri
/- The writer's statements, at last. -/
namespace Go.Proofs.YtnfjgjomokloaaaDoor.Abs.Wri
open Go Go.RowKit
set_option linter.unusedVariables false
set_option linter.unusedSimpArgs false
theorem z6t : ∀ {l : List z07}, okL l → ∀ s ∈ l, okS s ∧ szS s + 1 ≤ szL l
 | [], _, s, hs => by cases hs
 | x :: r, ho, s, hs => by
  simp only [okL] at ho
  have := z43 r
  rcases List.mem_cons.1 hs with rfl | hs
  ·exact ⟨ho.1, by simp only [szL]; omega⟩
  ·have := z6t ho.2 s hs
   exact ⟨this.1, by simp only [szL]; omega⟩
theorem zbz : ∀ {l : List z1c}, okA l → ∀ x ∈ l, okL x.Body ∧ szL x.Body ≤ szA l
 | [], _, s, hs => by cases hs
 | .mk t v b :: r, ho, s, hs => by
  simp only [okA] at ho
  rcases List.mem_cons.1 hs with rfl | hs
  ·exact ⟨ho.2.2.1, by simp only [szA]; show szL b ≤ _; omega⟩
  ·have := zbz ho.2.2.2 s hs
   exact ⟨this.1, by simp only [szA]; omega⟩
theorem zei {n h : Nat} {x : Option z00} {r : z00} (k : Sn n h x r) : Sn n h (x.bind fun v => some v) r := Sn.bind (f := fun v => some v) k (.inl rfl)
theorem zmr {n h : Nat} {x : Option z00} {f : z00 → Option z00} {r t : z00} (s : Sn n h x r) (k : Sn n h (f r) t) : Sn n h (x.bind f) t := Sn.bind (f := f) s k
theorem zms : ∀ (N : Nat) (s : z07), szS s ≤ N → okS s → StOk s := by
 intro N
 induction N with
 | zero => intro s hs; cases s; simp only [szS] at hs; omega
 | succ N ih =>
  intro s hs ho n a hq hr
  obtain ⟨k, nm, tg, e, c, bo, el, ar⟩ := s
  simp only [szS] at hs
  simp only [okS] at ho
  obtain ⟨on, ot, oe, oc, ob, oel, oar⟩ := ho
  have hbo : LsOk bo := z9n fun s h => ih s (by have := (z6t ob s h).2; omega) (z6t ob s h).1
  have hel : LsOk el := z9n fun s h => ih s (by have := (z6t oel s h).2; omega) (z6t oel s h).1
  have har : ∀ x ∈ ar, LsOk x.Body := fun x hx => z9n fun s h => ih s (by have := (z6t (zbz oar x hx).1 s h).2; have := (zbz oar x hx).2; omega) (z6t (zbz oar x hx).1 s h).1
  have hz : szS (.mk k nm tg e c bo el ar) = 4 + szE e + szC c + szL bo + szL el + szA ar := by simp only [szS]
  rw [hz] at hq hr ⊢
  have p1 := z43 bo
  have p2 := z43 el
  have p3 := zal ar
  have lE := z6s e a.f_parens
  have lC := zl5 c a.f_parens
  have lB := z95 (fun q => sL bo q a.f_parens) a.f_blocks _ fun q => z7c bo q a.f_parens
  have lL := z95 (fun q => sL el q a.f_parens) a.f_blocks _ fun q => z7c el q a.f_parens
  have lA := zfj ar a.f_blocks a.f_parens
  cases n with
  | zero => exact .inr ⟨by simp [z0w], by omega⟩
  | succ n =>
   have helt : (decide (((z07.mk k nm tg e c bo el ar).Else.length : Int) > 0)) = !el.isEmpty := by show decide ((el.length : Int) > 0) = _; cases el <;> simp
   simp only [z0w, sS, helt, Option.bind_eq_bind]
   dsimp only [z07.Kind, z07.Name, z07.Tag, z07.E, z07.C, z07.Body, z07.Else, z07.Arms]
   by_cases h1 : (k == 1) = true
   case pos =>
    refine .inl ?_
    simp only [h1, if_true]
    rw [z54 (hr.le (by omega)) on]
    simp only [Option.bind_some]
    rw [z2x (hr.act (by simp [wN]; omega))]
    simp only [Option.bind_some, z0v]
    rw [zd5 oe (hq.1.act (by omega)) (hr.act (by simp [wN, wW]; omega))]
    simp only [Option.bind_some, z0v, z1y]
    rw [z2x (hr.act (by simp [wN, wW]; omega))]
    simp only [Option.bind_some, z0v, Wr.assoc]
   case neg =>
   have h1 := Bool.eq_false_iff.2 h1
   simp only [h1, Bool.false_eq_true, if_false]
   by_cases h2 : (k == 2) = true
   case pos =>
    simp only [h2, if_true]
    rw [z2x (hr.le (by simp; omega))]
    simp only [Option.bind_some]
    rw [zj3 oc (hq.1.act (by omega)) (hr.act (by simp [wW]; omega))]
    simp only [Option.bind_some, z0v, z1y]
    have kb := z9o hbo n (act a (wW [ByteArray.mk #[105, 102]] ++ sC c a.f_parens)) (hq.act (by omega)) (hr.act (by simp [wW]; omega))
    simp only [z0v, z4x, z1y, Wr.assoc] at kb
    refine Sn.mono (Sn.up (zmr (kb.mono (by omega : _ ≤ 8 * (4 + szE e + szC c + szL bo + szL el + szA ar) - 1)) ?_)) (by omega)
    cases he : el.isEmpty with
    | true =>
     refine .inl ?_
     simp [Wr.app_nil]
    | false =>
     simp only [Bool.not_false, if_true]
     rw [z2x (hr.act (by simp [wW]; omega))]
     simp only [Option.bind_some, z0v, Bool.false_eq_true, if_false]
     have ke := z9o hel n (act a (wW [ByteArray.mk #[105, 102]] ++ (sC c a.f_parens ++ (inB (fun q => sL bo q a.f_parens) a.f_blocks)) ++ wW [ByteArray.mk #[101, 108, 115, 101]])) (hq.act (by omega)) (hr.act (by simp [wW]; omega))
     simp only [z0v, z4x, z1y, Wr.assoc] at ke ⊢
     exact zei (ke.mono (by omega))
   case neg =>
   have h2 := Bool.eq_false_iff.2 h2
   simp only [h2, Bool.false_eq_true, if_false]
   by_cases h3 : (k == 3) = true
   case pos =>
    simp only [h3, if_true]
    rw [z2x (hr.le (by simp; omega))]
    simp only [Option.bind_some]
    rw [zj3 oc (hq.1.act (by omega)) (hr.act (by simp [wW]; omega))]
    simp only [Option.bind_some, z0v, z1y]
    have kb := z9o hbo n (act a (wW [ByteArray.mk #[119, 104, 105, 108, 101]] ++ sC c a.f_parens)) (hq.act (by omega)) (hr.act (by simp [wW]; omega))
    simp only [z0v, z4x, z1y, Wr.assoc] at kb
    exact Sn.mono (Sn.up (zei (kb.mono (by omega : _ ≤ 8 * (4 + szE e + szC c + szL bo + szL el + szA ar) - 1)))) (by omega)
   case neg =>
   have h3 := Bool.eq_false_iff.2 h3
   simp only [h3, Bool.false_eq_true, if_false]
   by_cases h4 : (k == 4) = true
   case pos =>
    refine .inl ?_
    simp only [h4, if_true]
    rw [z2x (hr.le (by simp; omega))]
    simp only [Option.bind_some]
    rw [z54 (hr.act (by simp [wW]; omega)) on]
    simp only [Option.bind_some, z0v]
    rw [z2x (hr.act (by simp [wN, wW]; omega))]
    simp only [Option.bind_some, z0v]
    rw [z54 (hr.act (by simp [wN, wW]; omega)) ot]
    simp only [Option.bind_some, z0v]
    rw [z2x (hr.act (by simp [wN, wW]; omega))]
    simp only [Option.bind_some, z0v]
    rw [zd5 oe (hq.1.act (by omega)) (hr.act (by simp [wN, wW]; omega))]
    simp only [Option.bind_some, z0v, z1y]
    rw [z2x (hr.act (by simp [wN, wW]; omega))]
    simp only [Option.bind_some, z0v, Wr.assoc]
   case neg =>
   have h4 := Bool.eq_false_iff.2 h4
   simp only [h4, Bool.false_eq_true, if_false]
   by_cases h5 : (k == 5) = true
   case pos =>
    simp only [h5, if_true]
    rw [z2x (hr.le (by simp; omega))]
    simp only [Option.bind_some]
    rw [z54 (hr.act (by simp [wW]; omega)) on]
    simp only [Option.bind_some, z0v]
    have ka := zmq har oar n (act a (wW [ByteArray.mk #[114, 101, 99, 118]] ++ wN nm)) (hq.act (by omega)) (hr.act (by simp [wW, wN]; omega))
    simp only [z0v, z4x, z1y, Wr.assoc] at ka
    exact Sn.mono (Sn.up (zei (ka.mono (by omega : _ ≤ 8 * (4 + szE e + szC c + szL bo + szL el + szA ar) - 1)))) (by omega)
   case neg =>
   have h5 := Bool.eq_false_iff.2 h5
   simp only [h5, Bool.false_eq_true, if_false]
   by_cases h6 : (k == 6) = true
   case pos =>
    refine .inl ?_
    simp only [h6, if_true]
    rw [z2x (hr.le (by simp; omega))]
    simp only [Option.bind_some]
    rw [zj3 oc (hq.1.act (by omega)) (hr.act (by simp [wW]; omega))]
    simp only [Option.bind_some, z0v, z1y]
    rw [z2x (hr.act (by simp [wW]; omega))]
    simp only [Option.bind_some, z0v, Wr.assoc]
   case neg =>
   have h6 := Bool.eq_false_iff.2 h6
   simp only [h6, Bool.false_eq_true, if_false]
   by_cases h7 : (k == 7) = true
   case pos =>
    refine .inl ?_
    simp only [h7, if_true]
    rw [z2x (hr.le (by simp; omega))]
    simp only [Option.bind_some]
    rw [z54 (hr.act (by simp [wW]; omega)) on]
    simp only [Option.bind_some, z0v]
    rw [z2x (hr.act (by simp [wN, wW]; omega))]
    simp only [Option.bind_some, z0v, Wr.assoc]
   case neg =>
    refine .inl ?_
    have h7 := Bool.eq_false_iff.2 h7
    simp only [h7, Bool.false_eq_true, if_false]
    simp only [z9b, Option.bind_some]
theorem zmt {a : z00} {l : List z07} (ho : okL l) (hq : Lq a (2 * szL l)) (hr : Room a (5 * szL l)) : z4b a l = some (act a (sL l a.f_blocks a.f_parens)) :=
 Sn.unf fun n => z9n (fun s h => zms _ s (Nat.le_refl _) (z6t ho s h).1) n a hq hr
end Go.Proofs.YtnfjgjomokloaaaDoor.Abs.Wri
/- ast.Words, told in plain words. -/
namespace Go.Proofs.YtnfjgjomokloaaaDoor.Abs.Wri
open Go Go.RowKit
set_option linter.unusedVariables false
set_option linter.unusedSimpArgs false
def z4j {β : Type} (g : Nat → β → Wr) : Nat → List β → Wr
 | _, [] => Wr.nil
 | i, x :: r => g i x ++ z4j g (i + 1) r
def sumN {β : Type} (c : β → Nat) : List β → Nat
 | [] => 0
 | x :: r => c x + sumN c r
theorem z5l {β : Type} {g : Nat → β → Wr} {c : β → Nat} : ∀ {l : List β} {i : Nat}, (∀ i, ∀ x ∈ l, (g i x).ws.length ≤ c x) → (z4j g i l).ws.length ≤ sumN c l
 | [], i, h => by simp [z4j, Wr.nil]
 | x :: r, i, h => by
  have h1 := h i x List.mem_cons_self
  have h2 := z5l (l := r) (i := i + 1) fun i y hy => h i y (List.mem_cons_of_mem _ hy)
  simp only [z4j, sumN, Wr.ws_app, List.length_append]; omega
/-- No depth yet. -/
def At0 (a : z00) : Prop := a.f_blocks = 0 ∧ a.f_parens = 0
theorem At0.act {a : z00} {x : Wr} (h : At0 a) : At0 (act a x) := h
abbrev TP := Bool × Bool × Int × Int × List ByteArray
theorem zh1 {β O : Type} {body : Int × TP → Option (Sum (Int × TP) (Sum O TP))} {g : Nat → β → Wr} {c : β → Nat} (a1 : List β) (hlen : a1.length ≤ 4611686018427387904)
  (hs : ∀ (i : Nat) x a, i < a1.length → idx a1 (i : Int) = some x → x ∈ a1 → At0 a → Room a (c x) → IntKind.i64.wrap ((i : Int) + 1) = ((i + 1 : Nat) : Int) → body ((i : Int), tp a) = some (.inl (((i + 1 : Nat) : Int), tp (act a (g i x)))))
  (he : ∀ a, body ((a1.length : Int), tp a) = some (.inr (.inr (tp a)))) (hl : ∀ i, ∀ x ∈ a1, (g i x).ws.length ≤ c x) :
  ∀ (l : List β) (i : Nat) (a : z00), a1.drop i = l → i ≤ a1.length → At0 a → Room a (sumN c l) → iter body ((i : Int), tp a) = some (.inr (tp (act a (z4j g i l)))) := by
 intro l
 induction l with
 | nil =>
  intro i a hd hi h0 hr
  have : i = a1.length := by have := List.drop_eq_nil_iff.1 hd; omega
  subst this
  rw [z5s (he a)]
  simp [z4j, Wr.nil, act, tp]
 | cons s r ih =>
  intro i a hd hi h0 hr
  have hlt : i < a1.length := by
   refine Nat.lt_of_not_le fun h => ?_
   rw [List.drop_of_length_le h] at hd; cases hd
  rw [List.drop_eq_getElem_cons hlt] at hd
  injection hd with h1 h2
  have hi2 : idx a1 (i : Int) = some s := by rw [zfc hlt, h1]
  have hw : IntKind.i64.wrap ((i : Int) + 1) = ((i + 1 : Nat) : Int) := by rw [w64 (by omega) (by omega)]; omega
  have hm : s ∈ a1 := by rw [← h1]; exact List.getElem_mem hlt
  simp only [sumN] at hr
  rw [zbt (hs i s a hlt hi2 hm h0 (hr.le (by omega)) hw), ih (i + 1) (act a (g i s)) h2 hlt h0.act (hr.act (by have := hl i s hm; omega))]
  simp only [z0v, z4j]
/-! ### Processes -/
def wVar (_ : Nat) (v : ByteArray) : Wr := wW [(ByteArray.mk #[118, 97, 114])] ++ (wN v ++ wW [(ByteArray.mk #[59])])
def sP (p : z2r) : Wr := wW [(ByteArray.mk #[112, 114, 111, 99])] ++ (wN p.Name ++ (wW [(ByteArray.mk #[123])] ++ (z4j wVar 0 p.Vars ++ (sL p.Body 0 0 ++ wW [(ByteArray.mk #[125])]))))
def szP (p : z2r) : Nat := 1 + p.Vars.length + szL p.Body
def okP (p : z2r) : Prop := p.Name.size ≤ 4194304 ∧ (∀ v ∈ p.Vars, v.size ≤ 4194304) ∧ okL p.Body
theorem z4y {β : Type} (k : Nat) : ∀ l : List β, sumN (fun _ => k) l = k * l.length
 | [] => by simp [sumN]
 | x :: r => by simp only [sumN, z4y k r, List.length_cons, Nat.mul_succ]; omega
theorem zfk (l : List ByteArray) (i : Nat) : (z4j wVar i l).ws.length ≤ 3 * l.length := by
 rw [← z4y]; exact z5l fun i x _ => by simp [wVar, wW, wN]
theorem zl7 (p : z2r) : (sP p).ws.length ≤ 5 * szP p := by
 have h1 := zfk p.Vars 0
 have h2 := z7c p.Body 0 0
 unfold sP szP; simp [wW, wN]; omega
theorem zoc {a : z00} {p : z2r} (ho : okP p) (h0 : At0 a) (hs : szP p ≤ 1152921504606846976) (hr : Room a (5 * szP p)) : z3b a p = some (act a (sP p)) := by
 obtain ⟨o1, o2, o3⟩ := ho
 unfold szP at hr hs
 have h1 := zfk p.Vars 0
 have h2 := z7c p.Body 0 0
 have h3 := z43 p.Body
 unfold z3b
 simp only [Option.bind_eq_bind]
 rw [z2x (hr.le (by simp; omega))]
 simp only [Option.bind_some]
 rw [z54 (hr.act (by simp [wW]; omega)) o1]
 simp only [Option.bind_some, z0v]
 rw [z2x (hr.act (by simp [wW, wN]; omega))]
 simp only [Option.bind_some, z0v]
 have hlp := zh1 (body := z2p p) (g := wVar) (c := fun _ => 3) p.Vars (by omega)
  (fun i x a hi hx hm h0 hr hw => by
   unfold z2p
   rw [if_pos (by simp; omega)]
   simp only [hx, Option.bind_eq_bind, Option.bind_some, hw]
   show ((z03 a _).bind _) = _
   rw [z2x (hr.le (by simp))]
   simp only [Option.bind_some]
   rw [z54 (hr.act (by simp [wW])) (o2 x hm)]
   simp only [Option.bind_some, z0v]
   rw [z2x (hr.act (by simp [wW, wN]))]
   simp only [Option.bind_some, z0v, Wr.assoc]
   rfl)
  (fun a => by unfold z2p; rw [if_neg (by simp)])
  (fun i x _ => by simp [wVar, wW, wN]) p.Vars 0 (act a (wW [ByteArray.mk #[112, 114, 111, 99]] ++ wN p.Name ++ wW [ByteArray.mk #[123]])) rfl (by omega) h0.act (by rw [z4y]; exact hr.act (by simp [wW, wN]; omega))
 have e0 : (((0 : Nat) : Int), tp (act a (wW [ByteArray.mk #[112, 114, 111, 99]] ++ wN p.Name ++ wW [ByteArray.mk #[123]]))) = ((0 : Int), (act a (wW [ByteArray.mk #[112, 114, 111, 99]] ++ wN p.Name ++ wW [ByteArray.mk #[123]])).f_form, (act a (wW [ByteArray.mk #[112, 114, 111, 99]] ++ wN p.Name ++ wW [ByteArray.mk #[123]])).f_deep, (act a (wW [ByteArray.mk #[112, 114, 111, 99]] ++ wN p.Name ++ wW [ByteArray.mk #[123]])).f_blocks, (act a (wW [ByteArray.mk #[112, 114, 111, 99]] ++ wN p.Name ++ wW [ByteArray.mk #[123]])).f_parens, (act a (wW [ByteArray.mk #[112, 114, 111, 99]] ++ wN p.Name ++ wW [ByteArray.mk #[123]])).f_out) := rfl
 rw [← e0, hlp]
 simp only [Option.bind_some, Sum.elim_inr, z0v]
 show ((z4b (act a _) p.Body).bind _) = _
 have hq : Lq (act a (wW [ByteArray.mk #[112, 114, 111, 99]] ++ wN p.Name ++ wW [ByteArray.mk #[123]] ++ z4j wVar 0 p.Vars)) (2 * szL p.Body) := by
  refine ⟨⟨?_, ?_⟩, ?_, ?_⟩ <;> simp [h0.1, h0.2] <;> omega
 rw [zmt o3 hq (hr.act (by simp [wW, wN]; omega))]
 simp only [Option.bind_some, z0v, z4x, z1y, h0.1, h0.2]
 rw [z2x (hr.act (by simp [wW, wN]; omega))]
 simp only [Option.bind_some, z0v, Wr.assoc]
 rfl
/-! ### Rules -/
def zd0 (_ : Nat) (m : z3r) : Wr := wI m.From ++ (wN m.Tag ++ (wI m.To ++ wW [(ByteArray.mk #[59])]))
def sR (r : z2m) : Wr := wW [(ByteArray.mk #[114, 117, 108, 101])] ++ (wN r.Chan ++ (wW [(ByteArray.mk #[123])] ++ (z4j zd0 0 r.Moves ++ wW [(ByteArray.mk #[125])])))
def szR (r : z2m) : Nat := 1 + r.Moves.length
def okR (r : z2m) : Prop := r.Chan.size ≤ 4194304 ∧ ∀ m ∈ r.Moves, in64 m.From ∧ m.Tag.size ≤ 4194304 ∧ in64 m.To
theorem zd6 (l : List z3r) (i : Nat) : (z4j zd0 i l).ws.length ≤ 4 * l.length := by
 rw [← z4y]; exact z5l fun i x _ => by simp [zd0, wW, wN, wI]
theorem zl8 (r : z2m) : (sR r).ws.length ≤ 5 * szR r := by
 have h1 := zd6 r.Moves 0
 unfold sR szR; simp [wW, wN]; omega
theorem zod {a : z00} {r : z2m} (ho : okR r) (h0 : At0 a) (hs : szR r ≤ 1152921504606846976) (hr : Room a (5 * szR r)) : z3a a r = some (act a (sR r)) := by
 obtain ⟨o1, o2⟩ := ho
 unfold szR at hr hs
 have h1 := zd6 r.Moves 0
 unfold z3a
 simp only [Option.bind_eq_bind]
 rw [z2x (hr.le (by simp; omega))]
 simp only [Option.bind_some]
 rw [z54 (hr.act (by simp [wW]; omega)) o1]
 simp only [Option.bind_some, z0v]
 rw [z2x (hr.act (by simp [wW, wN]; omega))]
 simp only [Option.bind_some, z0v]
 have hlp := zh1 (body := z29 r) (g := zd0) (c := fun _ => 4) r.Moves (by omega)
  (fun i x a hi hx hm h0 hr hw => by
   unfold z29
   rw [if_pos (by simp; omega)]
   simp only [hx, Option.bind_eq_bind, Option.bind_some, hw]
   show ((z1g a _).bind _) = _
   rw [z8c (hr.le (by omega)) (o2 x hm).1.1 (o2 x hm).1.2]
   simp only [Option.bind_some]
   rw [z54 (hr.act (by simp [wI])) (o2 x hm).2.1]
   simp only [Option.bind_some, z0v]
   rw [z8c (hr.act (by simp [wI, wN])) (o2 x hm).2.2.1 (o2 x hm).2.2.2]
   simp only [Option.bind_some, z0v]
   rw [z2x (hr.act (by simp [wI, wN]))]
   simp only [Option.bind_some, z0v, Wr.assoc]
   rfl)
  (fun a => by unfold z29; rw [if_neg (by simp)])
  (fun i x _ => by simp [zd0, wW, wN, wI]) r.Moves 0 (act a (wW [ByteArray.mk #[114, 117, 108, 101]] ++ wN r.Chan ++ wW [ByteArray.mk #[123]])) rfl (by omega) h0.act (by rw [z4y]; exact hr.act (by simp [wW, wN]; omega))
 show (iter (z29 r) (((0 : Nat) : Int), tp (act a (wW [ByteArray.mk #[114, 117, 108, 101]] ++ wN r.Chan ++ wW [ByteArray.mk #[123]])))).bind _ = _
 rw [hlp]
 simp only [Option.bind_some, Sum.elim_inr, z0v]
 show ((z03 (act a _) _).bind _) = _
 rw [z2x (hr.act (by simp [wW, wN]; omega))]
 simp only [Option.bind_some, z0v, Wr.assoc]
 rfl
/-! ### Channels -/
def kindOk (k : Int) : Bool := decide (k ≥ 0) && decide (k < 3)
def zj5 (k : Int) : ByteArray := match k with
 | 0 => ByteArray.mk #[98, 108, 111, 99, 107] | 1 => ByteArray.mk #[100, 114, 111, 112] | _ => ByteArray.mk #[108, 111, 115, 115, 121]
theorem zkk {k : Int} (h : kindOk k = true) : idx [(ByteArray.mk #[98, 108, 111, 99, 107]), (ByteArray.mk #[100, 114, 111, 112]), (ByteArray.mk #[108, 111, 115, 115, 121])] k = some (zj5 k) := by
 unfold kindOk at h
 simp only [Bool.and_eq_true, decide_eq_true_eq] at h
 have : k = 0 ∨ k = 1 ∨ k = 2 := by omega
 rcases this with rfl | rfl | rfl <;> rfl
def wTag (i : Nat) (t : ByteArray) : Wr := if i = 0 then wN t else wW [(ByteArray.mk #[44])] ++ wN t
def sCh (c : z2d) : Wr := wW [(ByteArray.mk #[99, 104, 97, 110])] ++ (wN c.Name ++ ((if kindOk c.Kind then wW [zj5 c.Kind] else wM false) ++ (wI c.Size ++ (wW [(ByteArray.mk #[102, 114, 111, 109])] ++ (wN c.From ++ (wW [(ByteArray.mk #[116, 111])] ++ (wN c.To ++ (wW [(ByteArray.mk #[123])] ++ (wM (!c.Tags.isEmpty) ++ (z4j wTag 0 c.Tags ++ wW [(ByteArray.mk #[125]), (ByteArray.mk #[59])]))))))))))
def szCh (c : z2d) : Nat := 3 + c.Tags.length
def okCh (c : z2d) : Prop := c.Name.size ≤ 4194304 ∧ c.From.size ≤ 4194304 ∧ c.To.size ≤ 4194304 ∧ in64 c.Size ∧ ∀ t ∈ c.Tags, t.size ≤ 4194304
theorem zj6 (i : Nat) (t : ByteArray) : (wTag i t).ws.length ≤ 2 := by unfold wTag; split <;> simp [wN, wW]
theorem zfl (l : List ByteArray) (i : Nat) : (z4j wTag i l).ws.length ≤ 2 * l.length := by
 rw [← z4y]; exact z5l fun i x _ => zj6 i x
theorem zj7 (c : z2d) : (sCh c).ws.length ≤ 5 * szCh c := by
 have h1 := zfl c.Tags 0
 unfold sCh szCh; split <;> simp [wW, wN, wI, wM] <;> omega
theorem zj8 (c : z2d) {body : Int × TP → Option (Sum (Int × TP) (Sum z00 TP))} (hbd : body = z1t c ∨ body = z1u c) (o : ∀ t ∈ c.Tags, t.size ≤ 4194304) (hlen : c.Tags.length ≤ 4611686018427387904) (a : z00) (h0 : At0 a) (hr : Room a (2 * c.Tags.length)) :
  iter body (((0 : Nat) : Int), tp a) = some (.inr (tp (act a (z4j wTag 0 c.Tags)))) := by
 refine zh1 (g := wTag) (c := fun _ => 2) c.Tags hlen (fun i x a hi hx hm h0 hr hw => ?_) (fun a => ?_) (fun i x _ => zj6 i x) c.Tags 0 a rfl (by omega) h0 (by rw [z4y]; exact hr)
 ·have hb : body ((i : Int), tp a) = ((if (decide ((i : Int) > 0)) then (z03 a [(ByteArray.mk #[44])] >>= fun v12 => z0h v12 x >>= fun v13 => some (v13.f_form, v13.f_deep, v13.f_blocks, v13.f_parens, v13.f_out))
    else (z0h a x >>= fun v14 => some (v14.f_form, v14.f_deep, v14.f_blocks, v14.f_parens, v14.f_out)) : Option TP) >>= fun j3 => some (.inl (((i + 1 : Nat) : Int), j3.1, j3.2.1, j3.2.2.1, j3.2.2.2.1, j3.2.2.2.2))) := by
   rcases hbd with rfl | rfl
   ·unfold z1t
    rw [if_pos (by simp; omega)]
    simp only [hx, Option.bind_eq_bind, Option.bind_some, hw]
    rfl
   ·unfold z1u
    rw [if_pos (by simp; omega)]
    simp only [hx, Option.bind_eq_bind, Option.bind_some, hw]
    rfl
  rw [hb]
  unfold wTag
  by_cases hi0 : i = 0
  ·subst hi0
   rw [if_neg (by simp), z54 (hr.le (by omega)) (o x hm)]
   rfl
  ·rw [if_pos (by simp; omega), z2x (hr.le (by simp))]
   simp only [Option.bind_eq_bind, Option.bind_some]
   rw [z54 (hr.act (by simp [wW])) (o x hm)]
   simp only [Option.bind_some, z0v, if_neg hi0]
   rfl
 ·rcases hbd with rfl | rfl
  ·unfold z1t; rw [if_neg (by simp)]
  ·unfold z1u; rw [if_neg (by simp)]
end Go.Proofs.YtnfjgjomokloaaaDoor.Abs.Wri
/- ast.Words, told in plain words: channels, and all. -/
namespace Go.Proofs.YtnfjgjomokloaaaDoor.Abs.Wri
open Go Go.RowKit
set_option linter.unusedVariables false
set_option linter.unusedSimpArgs false
theorem zfm {c : z2d} {body : Int × TP → Option (Sum (Int × TP) (Sum z00 TP))} (hbd : body = z1t c ∨ body = z1u c) (ho : okCh c) (hs : szCh c ≤ 1152921504606846976) {a : z00} {X : Wr} (h0 : At0 a) (hr : Room a (5 * szCh c)) (hX : X.ws.length ≤ 3) :
  (z1g (act a X) c.Size).bind (fun v4 => (z03 v4 [(ByteArray.mk #[102, 114, 111, 109])]).bind fun v5 => (z0h v5 c.From).bind fun v6 => (z03 v6 [(ByteArray.mk #[116, 111])]).bind fun v7 => (z0h v7 c.To).bind fun v8 => (z03 v8 [(ByteArray.mk #[123])]).bind fun v9 =>
   (z0z v9 (decide ((c.Tags.length : Int) > 0))).bind fun v10 => (iter body (0, v10.f_form, v10.f_deep, v10.f_blocks, v10.f_parens, v10.f_out)).bind (Sum.elim (fun _ => none) (fun j2 =>
    (z03 (z00.mk j2.2.2.2.2 j2.1 j2.2.1 j2.2.2.1 j2.2.2.2.1) [(ByteArray.mk #[125]), (ByteArray.mk #[59])]).bind fun v15 => some v15)))
  = some (act a (X ++ (wI c.Size ++ (wW [(ByteArray.mk #[102, 114, 111, 109])] ++ (wN c.From ++ (wW [(ByteArray.mk #[116, 111])] ++ (wN c.To ++ (wW [(ByteArray.mk #[123])] ++ (wM (!c.Tags.isEmpty) ++ (z4j wTag 0 c.Tags ++ wW [(ByteArray.mk #[125]), (ByteArray.mk #[59])])))))))))) := by
 obtain ⟨o1, o2, o3, o4, o5⟩ := ho
 unfold szCh at hr hs
 have h1 := zfl c.Tags 0
 rw [z8c (hr.act (by omega)) o4.1 o4.2]
 simp only [Option.bind_some, z0v]
 rw [z2x (hr.act (by simp [wI]; omega))]
 simp only [Option.bind_some, z0v]
 rw [z54 (hr.act (by simp [wI, wW]; omega)) o2]
 simp only [Option.bind_some, z0v]
 rw [z2x (hr.act (by simp [wI, wW, wN]; omega))]
 simp only [Option.bind_some, z0v]
 rw [z54 (hr.act (by simp [wI, wW, wN]; omega)) o3]
 simp only [Option.bind_some, z0v]
 rw [z2x (hr.act (by simp [wI, wW, wN]; omega))]
 simp only [Option.bind_some, z0v]
 have he : (decide ((c.Tags.length : Int) > 0)) = !c.Tags.isEmpty := by cases c.Tags <;> simp
 rw [he, z9b]
 simp only [Option.bind_some, z0v]
 have hlp := zj8 c hbd o5 (by omega) (act a (X ++ wI c.Size ++ wW [ByteArray.mk #[102, 114, 111, 109]] ++ wN c.From ++ wW [ByteArray.mk #[116, 111]] ++ wN c.To ++ wW [ByteArray.mk #[123]] ++ wM (!c.Tags.isEmpty))) h0.act (hr.act (by simp [wI, wW, wN, wM]; omega))
 show (iter body (((0 : Nat) : Int), tp (act a (X ++ wI c.Size ++ wW [ByteArray.mk #[102, 114, 111, 109]] ++ wN c.From ++ wW [ByteArray.mk #[116, 111]] ++ wN c.To ++ wW [ByteArray.mk #[123]] ++ wM (!c.Tags.isEmpty))))).bind _ = _
 rw [hlp]
 simp only [Option.bind_some, Sum.elim_inr, z0v]
 show ((z03 (act a _) _).bind _) = _
 rw [z2x (hr.act (by simp [wI, wW, wN, wM]; omega))]
 simp only [Option.bind_some, z0v, Wr.assoc]
theorem zoe {a : z00} {c : z2d} (ho : okCh c) (h0 : At0 a) (hs : szCh c ≤ 1152921504606846976) (hr : Room a (5 * szCh c)) : z2o a c = some (act a (sCh c)) := by
 have hr' := hr
 unfold szCh at hr'
 unfold z2o
 simp only [Option.bind_eq_bind]
 rw [z2x (hr'.le (by simp; omega))]
 simp only [Option.bind_some]
 rw [z54 (hr'.act (by simp [wW]; omega)) ho.1]
 have hj : ((if decide (c.Kind < 0) = true then some true else some (decide (c.Kind ≥ 3))) : Option Bool) = some (!kindOk c.Kind) := by
  unfold kindOk
  by_cases h : c.Kind < 0
  ·have : ¬ (c.Kind ≥ 0) := by omega
   simp [h, this]
  ·have : c.Kind ≥ 0 := by omega
   simp only [h, this, decide_false, decide_true, Bool.false_eq_true, if_false, Bool.true_and]
   by_cases h6 : c.Kind < 3
   ·have : ¬ c.Kind ≥ 3 := by omega
    simp [h6, this]
   ·have : c.Kind ≥ 3 := by omega
    simp [h6, this]
 simp only [Option.bind_some, z0v, hj]
 unfold sCh
 cases hok : kindOk c.Kind
 ·simp only [Bool.not_false, if_true, Bool.false_eq_true, if_false]
  rw [z9b]
  simp only [Option.bind_some, z0v]
  refine (zfm (.inl rfl) ho hs h0 hr (X := wW [ByteArray.mk #[99, 104, 97, 110]] ++ wN c.Name ++ wM false) (by simp [wW, wN, wM])).trans ?_
  simp only [Wr.assoc]
 ·simp only [Bool.not_true, if_true, Bool.false_eq_true, if_false, zkk hok, Option.bind_some]
  rw [z2x (hr'.act (by simp [wW, wN]; omega))]
  simp only [Option.bind_some, z0v]
  refine (zfm (.inr rfl) ho hs h0 hr (X := wW [ByteArray.mk #[99, 104, 97, 110]] ++ wN c.Name ++ wW [zj5 c.Kind]) (by simp [wW, wN])).trans ?_
  simp only [Wr.assoc]
/-! ### All -/
def sSys (s : z1d) : Wr := z4j (fun _ => sCh) 0 s.Chans ++ (z4j (fun _ => sR) 0 s.Rules ++ z4j (fun _ => sP) 0 s.Procs)
def zay (s : z1d) : Nat := sumN szCh s.Chans + sumN szR s.Rules + sumN szP s.Procs
def zbs (s : z1d) : Prop := (∀ c ∈ s.Chans, okCh c) ∧ (∀ c ∈ s.Rules, okR c) ∧ (∀ c ∈ s.Procs, okP c)
def endW (x : Wr) : List ByteArray × Int := if x.bad then ([], 5) else if x.dp then ([], 6) else if 2000 < x.ws.length then ([], 4) else (x.ws, 0)
theorem z6d {β : Type} {c : β → Nat} : ∀ {l : List β} {x : β}, x ∈ l → c x ≤ sumN c l
 | y :: r, x, h => by
  rcases List.mem_cons.1 h with rfl | h
  ·simp only [sumN]; omega
  ·have := z6d (c := c) h; simp only [sumN]; omega
theorem z6e {β : Type} {c : β → Nat} (h : ∀ x, 1 ≤ c x) : ∀ (l : List β), l.length ≤ sumN c l
 | [] => by simp
 | x :: r => by have := z6e h r; have := h x; simp only [sumN, List.length_cons]; omega
theorem z8e {β : Type} (k : Nat) (c : β → Nat) : ∀ (l : List β), sumN (fun x => k * c x) l = k * sumN c l
 | [] => by simp [sumN]
 | x :: r => by simp only [sumN, z8e k c r, Nat.mul_add]
theorem ziu {s : z1d} (ho : zbs s) (hs : zay s ≤ 1000000000000) : z6p s = some (endW (sSys s)) := by
 obtain ⟨o1, o2, o3⟩ := ho
 unfold zay at hs
 have g1 := z5l (g := fun _ => sCh) (c := fun x => 5 * szCh x) (l := s.Chans) (i := 0) fun i x _ => zj7 x
 have g2 := z5l (g := fun _ => sR) (c := fun x => 5 * szR x) (l := s.Rules) (i := 0) fun i x _ => zl8 x
 have g3 := z5l (g := fun _ => sP) (c := fun x => 5 * szP x) (l := s.Procs) (i := 0) fun i x _ => zl7 x
 rw [z8e] at g1 g2 g3
 have n1 := z6e (c := szCh) (fun x => by unfold szCh; omega) s.Chans
 have n2 := z6e (c := szR) (fun x => by unfold szR; omega) s.Rules
 have n3 := z6e (c := szP) (fun x => by unfold szP; omega) s.Procs
 let a0 : z00 := ⟨[], false, false, 0, 0⟩
 have h0 : At0 a0 := ⟨rfl, rfl⟩
 have r0 : Room a0 8796093022208 := by unfold Room; simp [a0]
 have w1 := zh1 (body := z3l s) (g := fun _ => sCh) (c := fun x => 5 * szCh x) s.Chans (by omega)
  (fun i x a hi hx hm h0 hr hw => by
   unfold z3l
   rw [if_pos (by simp; omega)]
   simp only [hx, Option.bind_eq_bind, Option.bind_some, hw]
   show ((z2o a _).bind _) = _
   have := z6d (c := szCh) hm
   rw [zoe (o1 x hm) h0 (by omega) hr]
   rfl)
  (fun a => by unfold z3l; rw [if_neg (by simp)])
  (fun i x _ => zj7 x) s.Chans 0 a0 rfl (by omega) h0 (by rw [z8e]; exact r0.le (by omega))
 have w2 := zh1 (body := z3m s) (g := fun _ => sR) (c := fun x => 5 * szR x) s.Rules (by omega)
  (fun i x a hi hx hm h0 hr hw => by
   unfold z3m
   rw [if_pos (by simp; omega)]
   simp only [hx, Option.bind_eq_bind, Option.bind_some, hw]
   show ((z3a a _).bind _) = _
   have := z6d (c := szR) hm
   rw [zod (o2 x hm) h0 (by omega) hr]
   rfl)
  (fun a => by unfold z3m; rw [if_neg (by simp)])
  (fun i x _ => zl8 x) s.Rules 0 (act a0 (z4j (fun _ => sCh) 0 s.Chans)) rfl (by omega) h0.act (by rw [z8e]; exact r0.act (by omega))
 have w3 := zh1 (body := z3n s) (g := fun _ => sP) (c := fun x => 5 * szP x) s.Procs (by omega)
  (fun i x a hi hx hm h0 hr hw => by
   unfold z3n
   rw [if_pos (by simp; omega)]
   simp only [hx, Option.bind_eq_bind, Option.bind_some, hw]
   show ((z3b a _).bind _) = _
   have := z6d (c := szP) hm
   rw [zoc (o3 x hm) h0 (by omega) hr]
   rfl)
  (fun a => by unfold z3n; rw [if_neg (by simp)])
  (fun i x _ => zl7 x) s.Procs 0 (act (act a0 (z4j (fun _ => sCh) 0 s.Chans)) (z4j (fun _ => sR) 0 s.Rules)) rfl (by omega) h0.act.act (by rw [z8e, z0v]; exact r0.act (by simp only [Wr.ws_app, List.length_append]; omega))
 unfold z6p
 show (iter (z3l s) (((0 : Nat) : Int), tp a0) >>= _) = _
 rw [w1]
 simp only [Option.bind_eq_bind, Option.bind_some, Sum.elim_inr]
 show ((iter (z3m s) (((0 : Nat) : Int), tp (act a0 _))).bind _) = _
 rw [w2]
 simp only [Option.bind_some, Sum.elim_inr]
 show ((iter (z3n s) (((0 : Nat) : Int), tp (act (act a0 _) _))).bind _) = _
 rw [w3]
 simp only [Option.bind_some, Sum.elim_inr, z0v, Wr.assoc]
 have ex : ∀ X : Wr, tp (act a0 X) = (X.bad, X.dp, 0, 0, X.ws) := fun X => by simp [tp, act, a0]
 rw [ex]
 show _ = some (endW (sSys s))
 unfold endW sSys
 generalize (z4j (fun _ => sCh) 0 s.Chans ++ (z4j (fun _ => sR) 0 s.Rules ++ z4j (fun _ => sP) 0 s.Procs)) = X
 obtain ⟨ws, bad, dp⟩ := X
 cases bad
 ·cases dp
  ·simp only [Bool.false_eq_true, if_false]
   by_cases h : 2000 < ws.length
   ·rw [if_pos h, if_pos (by simp; omega)]
   ·rw [if_neg h, if_neg (by simp; omega)]
  ·simp
 ·simp
end Go.Proofs.YtnfjgjomokloaaaDoor.Abs.Wri
/- No word is long. -/
namespace Go.Proofs.YtnfjgjomokloaaaDoor.Abs.Wri
open Go Go.RowKit
set_option linter.unusedVariables false
set_option linter.unusedSimpArgs false
def Sm (x : Wr) : Prop := ∀ w ∈ x.ws, w.size ≤ 4194304
theorem Sm.app {x y : Wr} (h : Sm x) (k : Sm y) : Sm (x ++ y) := fun w hw => by
 rcases List.mem_append.1 hw with hw | hw
 ·exact h w hw
 ·exact k w hw
theorem zfn : Sm Wr.nil := fun w hw => by cases hw
theorem sm_M (b : Bool) : Sm (wM b) := fun w hw => by cases hw
theorem sm_D (q : Int) : Sm (wD q) := fun w hw => by cases hw
theorem sm_N {s : ByteArray} (h : s.size ≤ 4194304) : Sm (wN s) := fun w hw => by
 simp only [wN, List.mem_singleton] at hw; rw [hw]; exact h
theorem sm_I {n : Int} (h : in64 n) : Sm (wI n) := fun w hw => by
 simp only [wI, List.mem_singleton] at hw
 rw [hw]
 have := Lib.itoa_length_le n h.1 h.2
 have e : (zax n).size = (Lib.itoa n).length := by rw [← z2l]; rfl
 omega
theorem sm_1 {s : ByteArray} (h : s.size ≤ 4194304) : Sm (wW [s]) := fun w hw => by
 simp only [wW, List.mem_singleton] at hw; rw [hw]; exact h
theorem sm_2 {s t : ByteArray} (h : s.size ≤ 4194304) (k : t.size ≤ 4194304) : Sm (wW [s, t]) := fun w hw => by
 simp only [wW, List.mem_cons, List.not_mem_nil, or_false] at hw
 rcases hw with rfl | rfl
 ·exact h
 ·exact k
theorem zkl (k : Int) : (zaz k).size ≤ 4194304 := by unfold zaz; split <;> decide
theorem zof (k : Int) : (opW k).size ≤ 4194304 := by unfold opW; split <;> decide
theorem zkm (k : Int) : (zj5 k).size ≤ 4194304 := by unfold zj5; split <;> decide
theorem zc0 {e : z09} (hn : in64 e.Num) (hs : e.Name.size ≤ 4194304) : Sm (z94 e) := by
 unfold z94
 refine (sm_M _).app ?_
 split
 ·exact sm_I hn
 ·exact (sm_M _).app (sm_N hs)
theorem zj9 {m : Bool} {f : Int → Wr} (h : ∀ q, Sm (f q)) (p : Int) : Sm (inP m f p) := by
 unfold inP
 split
 ·exact (sm_1 (by decide)).app ((sm_D _).app ((h _).app (sm_1 (by decide))))
 ·exact h p
theorem sm_E : ∀ (e : z09), okE e → ∀ p, Sm (sE e p)
 | ⟨k, n, s, []⟩, h, p => by
  simp only [okE] at h
  simp only [sE]
  exact zc0 h.1 h.2.1
 | ⟨k, n, s, [x]⟩, h, p => by
  simp only [okE, okEs] at h
  simp only [sE]
  split
  ·exact (sm_1 (by decide)).app ((sm_D _).app (zj9 (sm_E x h.2.2.1) _))
  ·exact zc0 h.1 h.2.1
 | ⟨k, n, s, [l, r]⟩, h, p => by
  simp only [okE, okEs] at h
  simp only [sE]
  split
  ·exact (zj9 (sm_E l h.2.2.1) _).app ((sm_1 (zkl _)).app (zj9 (sm_E r h.2.2.2.1) _))
  ·exact zc0 h.1 h.2.1
 | ⟨k, n, s, a :: b :: c :: l⟩, h, p => by
  simp only [okE] at h
  simp only [sE]
  exact zc0 h.1 h.2.1
theorem sm_C {c : z31} (h : okC c) (p : Int) : Sm (sC c p) := by
 unfold sC
 refine (sm_1 (by decide)).app ((sm_E _ h.1 p).app (Sm.app ?_ ((sm_E _ h.2 p).app (sm_1 (by decide)))))
 split
 ·exact sm_1 (zof _)
 ·exact sm_M _
theorem zja {f : Int → Wr} (h : ∀ q, Sm (f q)) (b : Int) : Sm (inB f b) := (sm_1 (by decide)).app ((sm_D _).app ((h _).app (sm_1 (by decide))))
mutual
theorem sm_S : ∀ (s : z07), okS s → ∀ b p, Sm (sS s b p)
 | .mk k n t e c bo el ar, h, b, p => by
  simp only [okS] at h
  obtain ⟨on, ot, oe, oc, ob, oel, oar⟩ := h
  have hB : Sm (inB (fun q => sL bo q p) b) := zja (fun q => sm_L bo ob q p) b
  have hL : Sm (inB (fun q => sL el q p) b) := zja (fun q => sm_L el oel q p) b
  have hA := sm_A ar oar b p
  have hE := sm_E e oe p
  have hC := sm_C oc p
  simp only [sS]
  split
  ·exact (sm_N on).app ((sm_1 (by decide)).app (hE.app (sm_1 (by decide))))
  ·split
   ·refine (sm_1 (by decide)).app (hC.app (hB.app ?_))
    split
    ·exact zfn
    ·exact (sm_1 (by decide)).app hL
   ·split
    ·exact (sm_1 (by decide)).app (hC.app hB)
    ·split
     ·exact (sm_1 (by decide)).app ((sm_N on).app ((sm_1 (by decide)).app ((sm_N ot).app ((sm_1 (by decide)).app (hE.app (sm_2 (by decide) (by decide)))))))
     ·split
      ·exact (sm_1 (by decide)).app ((sm_N on).app ((sm_M _).app ((sm_1 (by decide)).app (hA.app (sm_1 (by decide))))))
      ·split
       ·exact (sm_1 (by decide)).app (hC.app (sm_1 (by decide)))
       ·split
        ·exact (sm_1 (by decide)).app ((sm_N on).app (sm_1 (by decide)))
        ·exact sm_M _
theorem sm_L : ∀ (l : List z07), okL l → ∀ b p, Sm (sL l b p)
 | [], h, b, p => by simp only [sL]; exact zfn
 | s :: r, h, b, p => by
  simp only [okL] at h
  simp only [sL]
  exact (sm_S s h.1 b p).app (sm_L r h.2 b p)
theorem sm_A : ∀ (l : List z1c), okA l → ∀ b p, Sm (sA l b p)
 | [], h, b, p => by simp only [sA]; exact zfn
 | .mk t v bo :: r, h, b, p => by
  simp only [okA] at h
  have hB : Sm (inB (fun q => sL bo q p) b) := zja (fun q => sm_L bo h.2.2.1 q p) b
  simp only [sA]
  exact (sm_N h.1).app ((sm_1 (by decide)).app ((sm_N h.2.1).app ((sm_1 (by decide)).app (hB.app (sm_A r h.2.2.2 b p)))))
end
theorem z7o {β : Type} {g : Nat → β → Wr} : ∀ {l : List β} {i : Nat}, (∀ i, ∀ x ∈ l, Sm (g i x)) → Sm (z4j g i l)
 | [], i, h => zfn
 | x :: r, i, h => (h i x List.mem_cons_self).app (z7o fun i y hy => h i y (List.mem_cons_of_mem _ hy))
theorem zog {s : z1d} (h : zbs s) : Sm (sSys s) := by
 obtain ⟨h1, h2, h3⟩ := h
 refine (z7o fun i c hc => ?_).app ((z7o fun i r hr => ?_).app (z7o fun i p hp => ?_))
 ·obtain ⟨o1, o2, o3, o4, o5⟩ := h1 c hc
  unfold sCh
  refine (sm_1 (by decide)).app ((sm_N o1).app (Sm.app ?_ ((sm_I o4).app ((sm_1 (by decide)).app ((sm_N o2).app ((sm_1 (by decide)).app ((sm_N o3).app ((sm_1 (by decide)).app ((sm_M _).app ((z7o fun i t ht => ?_).app (sm_2 (by decide) (by decide))))))))))))
  ·split
   ·exact sm_1 (zkm _)
   ·exact sm_M _
  ·unfold wTag
   split
   ·exact sm_N (o5 t ht)
   ·exact (sm_1 (by decide)).app (sm_N (o5 t ht))
 ·obtain ⟨o1, o2⟩ := h2 r hr
  unfold sR
  refine (sm_1 (by decide)).app ((sm_N o1).app ((sm_1 (by decide)).app ((z7o fun i m hm => ?_).app (sm_1 (by decide)))))
  exact (sm_I (o2 m hm).1).app ((sm_N (o2 m hm).2.1).app ((sm_I (o2 m hm).2.2).app (sm_1 (by decide))))
 ·obtain ⟨o1, o2, o3⟩ := h3 p hp
  unfold sP
  refine (sm_1 (by decide)).app ((sm_N o1).app ((sm_1 (by decide)).app ((z7o fun i v hv => ?_).app ((sm_L _ o3 0 0).app (sm_1 (by decide))))))
  exact (sm_1 (by decide)).app ((sm_N (o2 v hv)).app (sm_1 (by decide)))
theorem zfo : ∀ {l : List ByteArray}, (∀ w ∈ l, w.size ≤ 4194304) → (z4v l).length ≤ 4194305 * l.length
 | [], h => by simp [z4v]
 | x :: r, h => by
  have h1 := zfo (l := r) fun w hw => h w (List.mem_cons_of_mem _ hw)
  have h2 := h x List.mem_cons_self
  have e : (z4v (x :: r)).length = x.size + 1 + (z4v r).length := by
   simp only [z4v, List.flatMap_cons, List.length_append, List.length_cons, List.length_nil, z2l]
  rw [e, List.length_cons, Nat.mul_succ]; omega
/-- The text of what is told fits. -/
theorem zjb {s : z1d} (h : zbs s) : (z4v (endW (sSys s)).1).length ≤ 140737488355328 := by
 unfold endW
 split
 ·simp [z4v]
 ·split
  ·simp [z4v]
  ·split
   ·simp [z4v]
   ·rename_i h2
    have := zfo (zog h)
    have : 4194305 * (sSys s).ws.length ≤ 4194305 * 2000 := Nat.mul_le_mul_left _ (by omega)
    show (z4v (sSys s).ws).length ≤ _
    omega
theorem zo2 {s : z1d} (ho : zbs s) (hs : zay s ≤ 1000000000000) : z2j s = some (zio (endW (sSys s)).1, (endW (sSys s)).2) := by
 unfold z2j
 rw [ziu ho hs]
 simp only [Option.bind_eq_bind, Option.bind_some]
 rw [if_pos (zjb ho)]
end Go.Proofs.YtnfjgjomokloaaaDoor.Abs.Wri
/- The statements' own systems, turned to the program's. -/
namespace Go.Proofs.YtnfjgjomokloaaaDoor.Abs.Wri
open Go Go.RowKit
set_option linter.unusedVariables false
set_option linter.unusedSimpArgs false
theorem zmu {β γ O : Type} {body : Int × List γ → Option (Sum (Int × List γ) (Sum O (List γ)))} {n H : Nat} (f : β → γ) (a1 : List β) (hlen : a1.length ≤ 400000000000)
  (hs : ∀ (i : Nat) x acc, i < a1.length → idx a1 (i : Int) = some x → x ∈ a1 → acc.length = i → IntKind.i64.wrap ((i : Int) + 1) = ((i + 1 : Nat) : Int) → Sn n H (body ((i : Int), acc)) (.inl (((i + 1 : Nat) : Int), acc ++ [f x])))
  (he : ∀ acc, body ((a1.length : Int), acc) = some (.inr (.inr acc))) :
  ∀ (l : List β) (i : Nat) (acc : List γ), a1.drop i = l → i ≤ a1.length → acc.length = i → Sn n H (iter body ((i : Int), acc)) (.inr (acc ++ l.map f)) := by
 intro l
 induction l with
 | nil =>
  intro i acc hd hi ha
  have : i = a1.length := by have := List.drop_eq_nil_iff.1 hd; omega
  subst this
  exact .inl (by rw [z5s (he acc)]; simp)
 | cons s r ih =>
  intro i acc hd hi ha
  have hlt : i < a1.length := by
   refine Nat.lt_of_not_le fun h => ?_
   rw [List.drop_of_length_le h] at hd; cases hd
  rw [List.drop_eq_getElem_cons hlt] at hd
  injection hd with h1 h2
  have hi2 : idx a1 (i : Int) = some s := by rw [zfc hlt, h1]
  have hw : IntKind.i64.wrap ((i : Int) + 1) = ((i + 1 : Nat) : Int) := by rw [w64 (by omega) (by omega)]; omega
  have hm : s ∈ a1 := by rw [← h1]; exact List.getElem_mem hlt
  have h3 := hs i s acc hlt hi2 hm ha hw
  have h4 := ih (i + 1) (acc ++ [f s]) h2 hlt (by simp; omega)
  rw [za2]
  refine Sn.bind h3 ?_
  simpa using h4
theorem z9p {β γ O : Type} {body : Int × List γ → Option (Sum (Int × List γ) (Sum O (List γ)))} {n H : Nat} (f : β → γ) (a1 : List β) (hlen : a1.length ≤ 400000000000)
  (hs : ∀ (i : Nat) x acc, i < a1.length → idx a1 (i : Int) = some x → x ∈ a1 → acc.length = i → IntKind.i64.wrap ((i : Int) + 1) = ((i + 1 : Nat) : Int) → Sn n H (body ((i : Int), acc)) (.inl (((i + 1 : Nat) : Int), acc ++ [f x])))
  (he : ∀ acc, body ((a1.length : Int), acc) = some (.inr (.inr acc))) : Sn n H (iter body (0, [])) (.inr (a1.map f)) := by
 have := zmu f a1 hlen hs he a1 0 [] rfl (by omega) rfl
 simpa using this
theorem z8f {β γ O : Type} {body : Int × List γ → Option (Sum (Int × List γ) (Sum O (List γ)))} (f : β → γ) (a1 : List β) (hlen : a1.length ≤ 400000000000)
  (hs : ∀ (i : Nat) x acc, i < a1.length → idx a1 (i : Int) = some x → x ∈ a1 → acc.length = i → IntKind.i64.wrap ((i : Int) + 1) = ((i + 1 : Nat) : Int) → body ((i : Int), acc) = some (.inl (((i + 1 : Nat) : Int), acc ++ [f x])))
  (he : ∀ acc, body ((a1.length : Int), acc) = some (.inr (.inr acc))) : iter body (0, []) = some (.inr (a1.map f)) := by
 rcases z9p (n := 0) (H := 0) f a1 hlen (fun i x acc h1 h2 h3 h4 h5 => .inl (hs i x acc h1 h2 h3 h4 h5)) he with h | ⟨_, h⟩
 ·exact h
 ·omega
/-! ### Expressions -/
mutual
def cE : z02 → z09
 | ⟨k, n, s, l⟩ => ⟨k, n, s, cEs l⟩
def cEs : List z02 → List z09
 | [] => []
 | e :: r => cE e :: cEs r
end
theorem zjc : ∀ l, cEs l = l.map cE
 | [] => rfl
 | e :: r => by simp only [cEs, List.map_cons, zjc r]
theorem zjd (e : z09) : 1 ≤ szE e := by cases e; simp only [szE]; omega
theorem zfp : ∀ {l : List z02} {x : z02}, x ∈ l → szE (cE x) ≤ szEs (cEs l)
 | y :: r, x, h => by
  rcases List.mem_cons.1 h with rfl | h
  ·simp only [cEs, szEs]; omega
  ·have := zfp h; simp only [cEs, szEs]; omega
theorem zfq : ∀ l : List z02, l.length ≤ szEs (cEs l)
 | [] => by simp
 | e :: r => by have := zfq r; have := zjd (cE e); simp only [cEs, szEs, List.length_cons]; omega
theorem cvE : ∀ (N : Nat) (e : z02), szE (cE e) ≤ N → N ≤ 400000000000 → ∀ n, Sn n (szE (cE e)) (z47 n e) (cE e) := by
 intro N
 induction N with
 | zero => intro e he; have := zjd (cE e); omega
 | succ N ih =>
  intro e he hN n
  obtain ⟨k, m, s, l⟩ := e
  simp only [cE, szE] at he ⊢
  cases n with
  | zero => exact .inr ⟨rfl, by omega⟩
  | succ n =>
   have hl := zfq l
   have h := z9p (n := n) (H := szEs (cEs l)) (body := z4q (z47 n) ⟨k, m, s, l⟩) cE l (by omega)
    (fun i x acc hi hx hm ha hw => by
     unfold z4q
     rw [if_pos (by simpa using hi)]
     simp only [hx, Option.bind_eq_bind, Option.bind_some, hw]
     have hz := zfp hm
     refine Sn.bind (f := _) ((ih x (by omega) (by omega) n).mono hz) (.inl ?_)
     rw [z6r (by simp; omega)]
     rfl)
    (fun acc => by unfold z4q; rw [if_neg (by simp)])
   have t2 := (Sn.bind (f := Sum.elim (fun _ => none) (fun j1 => some (z09.mk k m s j1))) h (.inl (by rw [← zjc]; rfl : _ = some (z09.mk k m s (cEs l))))).up
   exact t2.mono (by omega)
theorem zej {e : z02} (h : szE (cE e) ≤ 400000000000) : z81 e = some (cE e) := Sn.unf fun n => cvE _ e (Nat.le_refl _) h n
def cC (c : z0x) : z31 := ⟨c.Op, cE c.L, cE c.R⟩
theorem zmv {c : z0x} (h : szC (cC c) ≤ 400000000000) : z82 c = some (cC c) := by
 unfold szC cC at h
 simp only at h
 unfold z82
 rw [zej (e := c.L) (by omega), zej (e := c.R) (by omega)]
 rfl
/-! ### Statements -/
mutual
def cS : z0b → z07
 | .mk k n t e c b l a => .mk k n t (cE e) (cC c) (cL b) (cL l) (cA a)
def cL : List z0b → List z07
 | [] => []
 | s :: r => cS s :: cL r
def cA : List z26 → List z1c
 | [] => []
 | .mk t v b :: r => .mk t v (cL b) :: cA r
end
def cArm (x : z26) : z1c := .mk x.Tag x.Var (cL x.Body)
theorem zfr : ∀ l, cL l = l.map cS
 | [] => rfl
 | e :: r => by simp only [cL, List.map_cons, zfr r]
theorem zd7 : ∀ l, cA l = l.map cArm
 | [] => rfl
 | .mk t v b :: r => by simp only [cA, List.map_cons, zd7 r]; rfl
theorem zl9 : ∀ {l : List z0b} {x : z0b}, x ∈ l → szS (cS x) + 1 ≤ szL (cL l)
 | y :: r, x, h => by
  have := z43 (cL r)
  rcases List.mem_cons.1 h with rfl | h
  ·simp only [cL, szL]; omega
  ·have := zl9 h; simp only [cL, szL]; omega
theorem zla : ∀ {l : List z26} {x : z26}, x ∈ l → szL (cL x.Body) ≤ szA (cA l)
 | .mk t v b :: r, x, h => by
  rcases List.mem_cons.1 h with rfl | h
  ·simp only [cA, szA]; show szL (cL b) ≤ _; omega
  ·have := zla h; simp only [cA, szA]; omega
theorem zoh : ∀ l : List z0b, l.length ≤ szL (cL l) := fun l => by
 have := zeg (cL l)
 rw [zfr, List.length_map] at this
 rw [zfr]; exact this
theorem zlb : ∀ l : List z26, l.length ≤ szA (cA l) := fun l => by
 have := zeh (cA l)
 rw [zd7, List.length_map] at this
 rw [zd7]; exact this
theorem cvL : ∀ (N : Nat) (l : List z0b), szL (cL l) ≤ N → N ≤ 400000000000 → ∀ n, Sn n (szL (cL l)) (z2z n l) (cL l) := by
 intro N
 induction N with
 | zero => intro l hl; have := z43 (cL l); omega
 | succ N ih =>
  intro l hl hN n
  cases n with
  | zero => exact .inr ⟨rfl, z43 _⟩
  | succ n =>
   have hll := zoh l
   have hp := z43 (cL l)
   have h := z9p (n := n) (H := szL (cL l) - 1) (body := z4h (z2z n) l) cS l (by omega)
    (fun i x acc hi hx hm ha hw => by
     obtain ⟨k, nm, tg, e, c, bo, el, ar⟩ := x
     have hz := zl9 hm
     simp only [cS, szS] at hz
     have p1 := z43 (cL bo)
     have p2 := z43 (cL el)
     have p3 := zal (cA ar)
     unfold z4h
     rw [if_pos (by simpa using hi)]
     simp only [hx, Option.bind_eq_bind, Option.bind_some, hw]
     dsimp only [z0b.Kind, z0b.Name, z0b.Tag, z0b.E, z0b.C, z0b.Body, z0b.Else, z0b.Arms]
     rw [zej (e := e) (by omega), zmv (c := c) (by omega)]
     simp only [Option.bind_some]
     have har := z9p (n := n) (H := szL (cL l) - 1) (body := z4g (z2z n) (.mk k nm tg e c bo el ar)) cArm ar (by have := zlb ar; omega)
      (fun i x acc hi hx hm ha hw => by
       unfold z4g
       rw [if_pos (by show decide ((i : Int) < (ar.length : Int)) = true; simpa using hi)]
       dsimp only [z0b.Arms]
       simp only [hx, Option.bind_eq_bind, Option.bind_some, hw]
       have hz := zla hm
       refine Sn.bind (f := _) ((ih x.Body (by omega) (by omega) n).mono (by omega)) (.inl ?_)
       have := zlb ar
       rw [z6r (by simp; omega)]
       rfl)
      (fun acc => by unfold z4g; rw [if_neg (by simp [z0b.Arms])])
     have kb := (ih bo (by omega) (by omega) n).mono (by omega : _ ≤ szL (cL l) - 1)
     have ke := (ih el (by omega) (by omega) n).mono (by omega : _ ≤ szL (cL l) - 1)
     have fin : ∀ v9, Sn n (szL (cL l) - 1) ((app 288 acc [v9]).bind fun v9 => some (Sum.inl (((i + 1 : Nat) : Int), v9)) : Option (Sum (Int × List z07) (Sum (List z07) (List z07)))) (.inl (((i + 1 : Nat) : Int), acc ++ [v9])) := fun v9 => .inl (by rw [z6r (by simp; omega)]; rfl)
     refine Sn.bind (f := _) kb (Sn.bind (f := _) ke (Sn.bind (f := _) har ?_))
     have := fin (.mk k nm tg (cE e) (cC c) (cL bo) (cL el) (ar.map cArm))
     rw [← zd7] at this
     simp only [cS]
     rw [← zd7]
     exact this)
    (fun acc => by unfold z4h; rw [if_neg (by simp)])
   have t2 := (Sn.bind (f := Sum.elim (fun _ => none) (fun j1 => some j1)) h (.inl (by rw [← zfr]; rfl : _ = some (cL l)))).up
   exact t2.mono (by omega)
theorem zkn {l : List z0b} (h : szL (cL l) ≤ 400000000000) : zae l = some (cL l) := Sn.unf fun n => cvL _ l (Nat.le_refl _) h n
end Go.Proofs.YtnfjgjomokloaaaDoor.Abs.Wri
/- The statements' own systems, turned to the program's; the text that each Ast law asks for. -/
namespace Go.Proofs.YtnfjgjomokloaaaDoor.Abs.Wri
open Go Go.RowKit
set_option linter.unusedVariables false
set_option linter.unusedSimpArgs false
def cCh (c : z35) : z2d := ⟨c.Name, c.Kind, c.Size, c.From, c.To, c.Tags⟩
def cMo (m : z1p) : z3r := ⟨m.From, m.Tag, m.To⟩
def cRu (r : z36) : z2m := ⟨r.Chan, r.Moves.map cMo⟩
def cPr (p : z2w) : z2r := ⟨p.Name, p.Vars, cL p.Body⟩
def cSys (s : z19) : z1d := ⟨s.Chans.map cCh, s.Rules.map cRu, s.Procs.map cPr⟩
theorem zfs {β γ : Type} (c : γ → Nat) (f : β → γ) : ∀ l : List β, sumN c (l.map f) = sumN (fun x => c (f x)) l
 | [] => rfl
 | x :: r => by simp only [List.map_cons, sumN, zfs c f r]
theorem zl4 {s : z19} (h : zay (cSys s) ≤ 400000000000) : z1o s = some (cSys s) := by
 unfold zay cSys at h
 simp only [zfs] at h
 have n1 := z6e (c := fun x => szCh (cCh x)) (fun x => by unfold szCh; omega) s.Chans
 have n2 := z6e (c := fun x => szR (cRu x)) (fun x => by unfold szR; omega) s.Rules
 have n3 := z6e (c := fun x => szP (cPr x)) (fun x => by unfold szP; omega) s.Procs
 unfold z1o
 rw [z8f (body := z3u s) cCh s.Chans (by omega) (fun i x acc hi hx hm ha hw => by
   unfold z3u
   rw [if_pos (by simpa using hi)]
   simp only [hx, Option.bind_eq_bind, Option.bind_some, hw]
   have hz := z6d (c := fun x => szCh (cCh x)) hm
   have hz2 : szCh (cCh x) = 3 + x.Tags.length := rfl
   rw [z6r (by simp; omega)]
   simp only [Option.bind_some, List.nil_append]
   rw [z6r (by simp; omega)]
   rfl) (fun acc => by unfold z3u; rw [if_neg (by simp)])]
 simp only [Option.bind_eq_bind, Option.bind_some, Sum.elim_inr]
 rw [z8f (body := z3w s) cRu s.Rules (by omega) (fun i x acc hi hx hm ha hw => by
   unfold z3w
   rw [if_pos (by simpa using hi)]
   simp only [hx, Option.bind_eq_bind, Option.bind_some, hw]
   have hz := z6d (c := fun x => szR (cRu x)) hm
   have hz2 : szR (cRu x) = 1 + (x.Moves.map cMo).length := rfl
   rw [List.length_map] at hz2
   rw [z8f (body := z3v s ((i : Int), acc)) cMo x.Moves (by omega) (fun j y ac hj hy hym hya hw => by
    unfold z3v
    simp only [hx, Option.bind_eq_bind, Option.bind_some]
    rw [if_pos (by simpa using hj)]
    simp only [hy, Option.bind_eq_bind, Option.bind_some, hw]
    rw [z6r (by simp; omega)]
    rfl) (fun ac => by unfold z3v; simp only [hx, Option.bind_eq_bind, Option.bind_some]; rw [if_neg (by simp)])]
   simp only [Option.bind_some, Sum.elim_inr]
   rw [z6r (by simp; omega)]
   rfl) (fun acc => by unfold z3w; rw [if_neg (by simp)])]
 simp only [Option.bind_some, Sum.elim_inr]
 rw [z8f (body := z3x s) cPr s.Procs (by omega) (fun i x acc hi hx hm ha hw => by
   unfold z3x
   rw [if_pos (by simpa using hi)]
   simp only [hx, Option.bind_eq_bind, Option.bind_some, hw]
   have hz := z6d (c := fun x => szP (cPr x)) hm
   have hz2 : szP (cPr x) = 1 + x.Vars.length + szL (cL x.Body) := rfl
   rw [z6r (by simp; omega)]
   simp only [Option.bind_some, List.nil_append]
   rw [zkn (by omega)]
   simp only [Option.bind_some]
   rw [z6r (by simp; omega)]
   rfl) (fun acc => by unfold z3x; rw [if_neg (by simp)])]
 rfl
/-! ### One letter is a name -/
theorem z3o {b : UInt8} (h : isL b = true) : z1v ⟨#[b]⟩ = true := by
 have hA : isA b = true := by simp [isA, h]
 have hr : runL [b] = 1 := by rw [zak, if_pos hA]; rfl
 have hres : ¬ ([b] : Bs) ∈ resv := by
  intro hm
  unfold resv at hm
  simp at hm
 have hw : zb1 [b] = .ok ⟨1, 1, 0⟩ := by
  rw [zbd, if_pos h, hr, if_neg (by omega), if_neg (by simpa using hres)]
 have hB : isB b = false := by
  unfold isL at h
  simp only [Bool.and_eq_true, decide_eq_true_eq] at h
  unfold isB
  rw [Bool.or_eq_false_iff]
  constructor
  ·refine beq_eq_false_iff_ne.2 ?_
   rintro rfl
   exact absurd h.1 (by decide)
  ·refine beq_eq_false_iff_ne.2 ?_
   rintro rfl
   exact absurd h.1 (by decide)
 have hl : lexS [b] 0 = ([⟨1, [b], 0, 0⟩], none) := by
  rw [ziw hB hw]
  simp [zff]
 unfold z1v
 show (let v := finT 1 (lexS [b] 0); _) = true
 rw [hl]
 simp only [finT, told, List.length_singleton]
 rw [if_neg (by omega)]
 simp [tokT]
theorem zp0 : zax 1 = ByteArray.mk #[49] := by kernel_rfl
theorem zp1 : zax 2 = ByteArray.mk #[50] := by kernel_rfl
end Go.Proofs.YtnfjgjomokloaaaDoor.Abs.Wri
