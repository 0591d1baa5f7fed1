/- Words that may be written are short. -/
import Derived.Test.YtokjbpmjdcbogaaGreatDoorParT
import Derived.Test.YtokjbpmjdcbogaaGreatDoorPlB
import Derived.Test.YtokjbpmjdcbogaaGreatDoorAbsB
import Derived.Test.YtokjbpmjdcbogaaGreatDoorGwF
namespace Go.Proofs.YtokjbpmjdcbogaaGreatDoor.Abs.Par
open Go Go.RowKit Wri
set_option linter.unusedVariables false
set_option linter.unusedSimpArgs false
theorem zs7 : ∀ n l p, ∀ t ∈ (lexF n l p).1, t.kind = 1 → t.text.length ≤ 12 := by
 intro n
 induction n with
 | zero => intro l p t ht; cases ht
 | succ n ih =>
  intro l p t ht hk
  cases l with
  | nil => cases ht
  | cons b r =>
   simp only [lexF] at ht
   split at ht
   ·exact ih _ _ t ht hk
   ·cases hw : zdr (b :: r) with
    | error e => rw [hw] at ht; cases ht
    | ok w =>
     rw [hw] at ht
     simp only [List.mem_cons] at ht
     rcases ht with rfl | ht
     ·have hk : w.kind = 1 := hk
      have h12 : w.len ≤ 12 := by
       rw [zbi] at hw
       split at hw
       ·split at hw
        ·cases hw
        ·injection hw with hw; subst hw; simp only at hk ⊢; omega
       ·split at hw
        ·split at hw
         ·injection hw with hw; subst hw; simp at hk
         ·cases hw
        ·split at hw
         ·cases hw
         ·injection hw with hw; subst hw; simp at hk
      simp only [List.length_take]; omega
     ·exact ih _ _ t ht hk
theorem zs8 {s : ByteArray} (h : zi1 s = true) : s.size ≤ 24 := by
 unfold zi1 at h
 simp only [Bool.and_eq_true] at h
 obtain ⟨⟨h1, h2⟩, h3⟩ := h
 rw [zu7 s.data.toList.length _ _ (Nat.le_refl _)] at h3
 have hs := zs7 s.data.toList.length s.data.toList 0
 unfold finT at h3
 generalize lexF s.data.toList.length s.data.toList 0 = z at *
 split at h3
 ·rename_i t r he
  simp only [Bool.and_eq_true, beq_iff_eq] at h3
  obtain ⟨hk, ht⟩ := h3
  unfold told at he
  split at he
  ·cases he
  ·split at he
   ·cases he
   ·cases hz : z.1 with
    | nil => rw [hz] at he; cases he
    | cons t' r' =>
     rw [hz] at he
     injection he with he1 he2
     subst he1
     have h12 := hs t' (by rw [hz]; simp) hk
     have ht' : t'.text = s.data.toList := by
      have := ht
      rw [Go.ByteArray.toList_eq, Go.ByteArray.toList_eq, zmx] at this
      exact this
     have : s.size = s.data.toList.length := by cases s; simp [ByteArray.size]
     rw [this, ← ht']; omega
 ·cases h3
theorem zu8 {n : Int} (h : zl5 n = true) : (zec n).size ≤ 24 := by
 unfold zl5 at h
 simp only [Bool.and_eq_true, decide_eq_true_eq] at h
 have := Lib.itoa_length_le n (by omega) (by omega)
 have e : (zec n).size = (Lib.itoa n).length := by unfold zec; simp [ByteArray.size]
 omega
end Go.Proofs.YtokjbpmjdcbogaaGreatDoor.Abs.Par
namespace Go.Proofs.YtokjbpmjdcbogaaGreatDoor.Abs.Wri
open Go Go.RowKit Par
def Sh (x : Wr) : Prop := x.bad = false → ∀ w ∈ x.ws, w.size ≤ 24
theorem Sh.app {x y : Wr} (hx : Sh x) (hy : Sh y) : Sh (x ++ y) := fun h w hw => by
 simp only [Wr.app_def, Bool.or_eq_false_iff] at h
 simp only [Wr.ws_app, List.mem_append] at hw
 rcases hw with hw | hw
 ·exact hx h.1 w hw
 ·exact hy h.2 w hw
theorem zdg : Sh Wr.nil := fun _ w hw => by cases hw
theorem sh_M (b : Bool) : Sh (wM b) := fun _ w hw => by cases hw
theorem sh_D (b : Int) : Sh (wD b) := fun _ w hw => by cases hw
theorem sh_W {l : List ByteArray} (h : ∀ w ∈ l, w.size ≤ 24) : Sh (wW l) := fun _ w hw => h w hw
theorem sh_1 {w : ByteArray} (h : w.size ≤ 24) : Sh (wW [w]) := sh_W fun v hv => by simp at hv; subst hv; exact h
theorem sh_2 {w v : ByteArray} (h : w.size ≤ 24) (h' : v.size ≤ 24) : Sh (wW [w, v]) := sh_W fun x hv => by
 simp at hv; rcases hv with rfl | rfl
 ·exact h
 ·exact h'
theorem sh_N (s : ByteArray) : Sh (wN s) := fun h w hw => by
 simp only [wN, List.mem_singleton] at hw; subst hw
 simp only [wN, Bool.not_eq_false'] at h
 exact zs8 h
theorem sh_I (n : Int) : Sh (wI n) := fun h w hw => by
 simp only [wI, List.mem_singleton] at hw; subst hw
 simp only [wI, Bool.not_eq_false'] at h
 exact zu8 h
theorem sh_P {m : Bool} {f : Int → Wr} {p : Int} (h : ∀ q, Sh (f q)) : Sh (inP m f p) := by
 have h1 := h (p + 1)
 have h2 := h p
 unfold inP
 repeat' first
  | assumption | exact sh_D _ | exact sh_1 (by decide) | apply Sh.app | split
theorem sh_B {f : Int → Wr} {b : Int} (h : ∀ q, Sh (f q)) : Sh (inB f b) := by
 have h1 := h (b + 1)
 unfold inB
 repeat' first
  | assumption | exact sh_D _ | exact sh_1 (by decide) | apply Sh.app
theorem zl6 (e : z04) : Sh (zed e) := by
 unfold zed
 repeat' first
  | exact sh_M _ | exact sh_I _ | exact sh_N _ | apply Sh.app | split
theorem z73 (k : Int) : (zg4 k).size ≤ 24 := by unfold zg4; split <;> decide
theorem za2 (k : Int) : (opW k).size ≤ 24 := by unfold opW; split <;> decide
theorem z7i (k : Int) : (zk2 k).size ≤ 24 := by unfold zk2; split <;> decide
theorem sh_E : ∀ (e : z04) (p : Int), Sh (sE e p)
 | ⟨k, n, s, []⟩, p => by simp only [sE]; exact zl6 _
 | ⟨k, n, s, [x]⟩, p => by
  simp only [sE]
  split
  ·exact Sh.app (sh_1 (by decide)) (Sh.app (sh_D _) (sh_P (sh_E x)))
  ·exact zl6 _
 | ⟨k, n, s, [l, r]⟩, p => by
  simp only [sE]
  split
  ·exact Sh.app (sh_P (sh_E l)) (Sh.app (sh_1 (z73 k)) (sh_P (sh_E r)))
  ·exact zl6 _
 | ⟨k, n, s, a :: b :: c :: l⟩, p => by simp only [sE]; exact zl6 _
theorem sh_C (c : z31) (p : Int) : Sh (sC c p) := by
 unfold sC
 repeat' first
  | assumption | exact sh_N _ | exact sh_I _ | exact sh_M _ | exact sh_D _ | exact zdg | exact sh_E _ _ | exact sh_1 (z7i _) | exact sh_1 (z73 _) | exact sh_1 (za2 _) | exact sh_1 (by decide) | exact sh_2 (by decide) (by decide)
  | exact sh_P (sh_E _) | apply Sh.app | split
mutual
theorem sh_S : ∀ (s : z03) (b p : Int), Sh (sS s b p)
 | .mk k n t e c bo el ar, b, p => by
  have h3 : Sh (inB (fun q => sL bo q p) b) := sh_B fun q => sh_L bo q p
  have h4 : Sh (inB (fun q => sL el q p) b) := sh_B fun q => sh_L el q p
  have h5 := sh_A ar b p
  simp only [sS]
  repeat' first
   | assumption | exact sh_N _ | exact sh_I _ | exact sh_M _ | exact sh_D _ | exact zdg | exact sh_E _ _ | exact sh_C _ _ | exact sh_1 (z7i _) | exact sh_1 (z73 _) | exact sh_1 (za2 _) | exact sh_1 (by decide) | exact sh_2 (by decide) (by decide)
   | exact sh_P (sh_E _) | apply Sh.app | split
theorem sh_L : ∀ (l : List z03) (b p : Int), Sh (sL l b p)
 | [], b, p => by simp only [sL]; exact zdg
 | s :: r, b, p => by simp only [sL]; exact Sh.app (sh_S s b p) (sh_L r b p)
theorem sh_A : ∀ (l : List z0m) (b p : Int), Sh (sA l b p)
 | [], b, p => by simp only [sA]; exact zdg
 | .mk t v bo :: r, b, p => by
  have h3 : Sh (inB (fun q => sL bo q p) b) := sh_B fun q => sh_L bo q p
  simp only [sA]
  have h4 := sh_A r b p
  repeat' first
   | assumption | exact sh_N _ | exact sh_I _ | exact sh_M _ | exact sh_D _ | exact zdg | exact sh_E _ _ | exact sh_C _ _ | exact sh_1 (z7i _) | exact sh_1 (z73 _) | exact sh_1 (za2 _) | exact sh_1 (by decide) | exact sh_2 (by decide) (by decide)
   | exact sh_P (sh_E _) | apply Sh.app | split
end
theorem zg5 {β : Type} {g : Nat → β → Wr} (h : ∀ i x, Sh (g i x)) : ∀ (l : List β) (i : Nat), Sh (z7b g i l)
 | [], i => by simp only [z7b]; exact zdg
 | x :: r, i => by simp only [z7b]; exact Sh.app (h i x) (zg5 h r (i + 1))
theorem z02b (i : Nat) (t : ByteArray) : Sh (wVar i t) := by
 unfold wVar
 repeat' first
  | assumption | exact sh_N _ | exact sh_I _ | exact sh_M _ | exact sh_D _ | exact zdg | exact sh_E _ _ | exact sh_C _ _ | exact sh_1 (z7i _) | exact sh_1 (z73 _) | exact sh_1 (za2 _) | exact sh_1 (by decide) | exact sh_2 (by decide) (by decide)
  | exact sh_P (sh_E _) | apply Sh.app | split
theorem z04i (i : Nat) (t : z3s) : Sh (zk3 i t) := by
 unfold zk3
 repeat' first
  | assumption | exact sh_N _ | exact sh_I _ | exact sh_M _ | exact sh_D _ | exact zdg | exact sh_E _ _ | exact sh_C _ _ | exact sh_1 (z7i _) | exact sh_1 (z73 _) | exact sh_1 (za2 _) | exact sh_1 (by decide) | exact sh_2 (by decide) (by decide)
  | exact sh_P (sh_E _) | apply Sh.app | split
theorem z04j (p : z2h) : Sh (sP p) := by
 have h1 := zg5 z02b p.Vars 0
 have h2 := sh_L p.Body 0 0
 unfold sP
 repeat' first
  | assumption | exact sh_N _ | exact sh_I _ | exact sh_M _ | exact sh_D _ | exact zdg | exact sh_E _ _ | exact sh_C _ _ | exact sh_1 (z7i _) | exact sh_1 (z73 _) | exact sh_1 (za2 _) | exact sh_1 (by decide) | exact sh_2 (by decide) (by decide)
  | exact sh_P (sh_E _) | apply Sh.app | split
theorem z04k (r : z2g) : Sh (sR r) := by
 have h1 := zg5 z04i r.Moves 0
 unfold sR
 repeat' first
  | assumption | exact sh_N _ | exact sh_I _ | exact sh_M _ | exact sh_D _ | exact zdg | exact sh_E _ _ | exact sh_C _ _ | exact sh_1 (z7i _) | exact sh_1 (z73 _) | exact sh_1 (za2 _) | exact sh_1 (by decide) | exact sh_2 (by decide) (by decide)
  | exact sh_P (sh_E _) | apply Sh.app | split
theorem z02c (i : Nat) (t : ByteArray) : Sh (wTag i t) := by
 unfold wTag
 repeat' first
  | assumption | exact sh_N _ | exact sh_I _ | exact sh_M _ | exact sh_D _ | exact zdg | exact sh_E _ _ | exact sh_C _ _ | exact sh_1 (z7i _) | exact sh_1 (z73 _) | exact sh_1 (za2 _) | exact sh_1 (by decide) | exact sh_2 (by decide) (by decide)
  | exact sh_P (sh_E _) | apply Sh.app | split
theorem z04l (c : z23) : Sh (sCh c) := by
 have h1 := zg5 z02c c.Tags 0
 unfold sCh
 repeat' first
  | assumption | exact sh_N _ | exact sh_I _ | exact sh_M _ | exact sh_D _ | exact zdg | exact sh_E _ _ | exact sh_C _ _ | exact sh_1 (z7i _) | exact sh_1 (z73 _) | exact sh_1 (za2 _) | exact sh_1 (by decide) | exact sh_2 (by decide) (by decide)
  | exact sh_P (sh_E _) | apply Sh.app | split
theorem z02d (s : z16) : Sh (sSys s) := by
 unfold sSys
 exact Sh.app (zg5 (fun _ => z04l) _ _) (Sh.app (zg5 (fun _ => z04k) _ _) (zg5 (fun _ => z04j) _ _))
end Go.Proofs.YtokjbpmjdcbogaaGreatDoor.Abs.Wri
/- One word, and what follows a blank. -/
namespace Go.Proofs.YtokjbpmjdcbogaaGreatDoor.Abs.Wri
open Go Go.RowKit
set_option linter.unusedVariables false
set_option linter.unusedSimpArgs false
/-- A text that is one word. -/
def oneW (w : Bs) (x : W) : Prop := zdr w = .ok x ∧ x.len = w.length
end Go.Proofs.YtokjbpmjdcbogaaGreatDoor.Abs.Wri
/- A name is one word. -/
namespace Go.Proofs.YtokjbpmjdcbogaaGreatDoor.Abs.Wri
open Go Go.RowKit
set_option linter.unusedVariables false
set_option linter.unusedSimpArgs false
theorem zpz : ∀ (n : Nat) (l : Bs) (p : Nat), l.length ≤ n → ∀ t ∈ (lexS l p).1, t.text.length ≤ l.length := by
 intro n
 induction n with
 | zero =>
  intro l p h t ht
  have : l = [] := List.eq_nil_of_length_eq_zero (by omega)
  subst this
  rw [lexS] at ht; cases ht
 | succ n ih =>
  intro l p h t ht
  cases l with
  | nil => rw [lexS] at ht; cases ht
  | cons b r =>
   simp only [List.length_cons] at h ⊢
   rw [lexS] at ht
   split at ht
   ·have := ih r _ (by omega) t ht; omega
   ·split at ht
    ·cases ht
    ·rename_i w hw
     simp only [List.mem_cons] at ht
     rcases ht with rfl | ht
     ·simp only [List.length_take, List.length_cons]; omega
     ·have := ih (r.drop (w.len - 1)) _ (by simp; omega) t ht
      simp only [List.length_drop] at this; omega
theorem zq0 {s : ByteArray} (h : zi1 s = true) : ∃ x, oneW s.data.toList x ∧ x.kind = 1 ∧ ∀ b ∈ s.data.toList.head?, isB b = false := by
 unfold zi1 at h
 simp only [Bool.and_eq_true] at h
 obtain ⟨_, h3⟩ := h
 have hs := zpz s.data.toList.length s.data.toList
 unfold finT at h3
 generalize hl : s.data.toList = l at *
 split at h3
 ·rename_i t r he
  simp only [Bool.and_eq_true, beq_iff_eq] at h3
  obtain ⟨hk, ht⟩ := h3
  unfold told at he
  split at he
  ·cases he
  ·split at he
   ·cases he
   ·cases l with
    | nil => rw [lexS] at he; cases he
    | cons b q =>
     have hb : isB b = false := by
      cases hb : isB b with
      | false => rfl
      | true =>
       rw [lexS, if_pos hb] at he
       cases hz : (lexS q (0 + 1)).1 with
       | nil => rw [hz] at he; cases he
       | cons t' r' =>
        rw [hz] at he
        injection he with he1 he2
        subst he1
        have h4 := zpz q.length q (0 + 1) (Nat.le_refl _) t' (by rw [hz]; simp)
        rw [Go.ByteArray.toList_eq, Go.ByteArray.toList_eq, hl] at ht
        have ht : t'.text = b :: q := by simpa [tokT] using ht
        rw [ht] at h4; simp at h4; omega
     rw [lexS] at he
     simp only [hb, Bool.false_eq_true, if_false] at he
     cases hw : zdr (b :: q) with
     | error e => rw [hw] at he; cases he
     | ok w =>
      rw [hw] at he
      simp only [List.map_cons] at he
      injection he with he1 he2
      subst he1
      rw [Go.ByteArray.toList_eq, Go.ByteArray.toList_eq, hl] at ht
      have ht : (b :: q).take w.len = b :: q := by simpa [tokT] using ht
      have h1 := congrArg List.length ht
      have h2 := (zje hw).2
      rw [List.length_take] at h1
      exact ⟨w, ⟨hw, by omega⟩, hk, fun c hc => by simp at hc; subst hc; exact hb⟩
 ·cases h3
end Go.Proofs.YtokjbpmjdcbogaaGreatDoor.Abs.Wri
/- A number's numeral is one word. -/
namespace Go.Proofs.YtokjbpmjdcbogaaGreatDoor.Abs.Wri
open Go Go.RowKit
set_option linter.unusedVariables false
set_option linter.unusedSimpArgs false
theorem zu9 (d : Nat) (h : d < 10) : isD (UInt8.ofNat (48 + d)) = true ∧ (UInt8.ofNat (48 + d)).toNat - 48 = d ∧ (UInt8.ofNat (48 + d) = 48 → d = 0) ∧ isL (UInt8.ofNat (48 + d)) = false ∧ isA (UInt8.ofNat (48 + d)) = true ∧ isB (UInt8.ofNat (48 + d)) = false := by
 have : d = 0 ∨ d = 1 ∨ d = 2 ∨ d = 3 ∨ d = 4 ∨ d = 5 ∨ d = 6 ∨ d = 7 ∨ d = 8 ∨ d = 9 := by omega
 rcases this with rfl | rfl | rfl | rfl | rfl | rfl | rfl | rfl | rfl | rfl <;> decide
theorem zua (t : Bs) (b : UInt8) : dval (t ++ [b]) = 10 * dval t + (b.toNat - 48) := by simp [dval, List.foldl_append]
theorem zub : ∀ u : Nat, dval (Lib.decDigits u) = u ∧ (∀ b ∈ Lib.decDigits u, isD b = true ∧ isL b = false ∧ isA b = true ∧ isB b = false) ∧ Lib.decDigits u ≠ [] ∧ ((Lib.decDigits u).head? = some 48 → u = 0) := by
 intro u
 induction u using Nat.strongRecOn with
 | _ u ih =>
 by_cases h : u < 10
 ·have hd := zu9 u h
  rw [Lib.decDigits, dif_pos h]
  refine ⟨by simp only [dval, List.foldl_cons, List.foldl_nil]; omega, fun b hb => ?_, by simp, fun hh => ?_⟩
  ·rw [List.mem_singleton] at hb; subst hb; exact ⟨hd.1, hd.2.2.2.1, hd.2.2.2.2.1, hd.2.2.2.2.2⟩
  ·rw [List.head?_cons, Option.some.injEq] at hh; exact hd.2.2.1 hh
 ·have hd := zu9 (u % 10) (by omega)
  obtain ⟨h1, h2, h3, h4⟩ := ih (u / 10) (by omega)
  rw [Lib.decDigits, dif_neg h]
  refine ⟨by rw [zua, h1, hd.2.1]; omega, fun b hb => ?_, by simp, fun hh => ?_⟩
  ·rcases List.mem_append.1 hb with hb | hb
   ·exact h2 b hb
   ·rw [List.mem_singleton] at hb; subst hb; exact ⟨hd.1, hd.2.2.2.1, hd.2.2.2.2.1, hd.2.2.2.2.2⟩
  ·cases hq : Lib.decDigits (u / 10) with
   | nil => exact absurd hq h3
   | cons b r =>
    rw [hq] at hh h4
    have := h4 (by simpa using hh)
    omega
theorem zq1 : ∀ w : Bs, (∀ b ∈ w, isA b = true) → runL w = w.length
 | [], _ => rfl
 | b :: r, h => by rw [zcu, if_pos (h b (by simp)), zq1 r (fun c hc => h c (by simp [hc]))]; rfl
theorem z001 (u : Nat) (hu : u ≤ 2147483647) : oneW (Lib.decDigits u) ⟨2, (Lib.decDigits u).length, u⟩ ∧ ∀ b ∈ (Lib.decDigits u).head?, isB b = false := by
 obtain ⟨h1, h2, h3, h4⟩ := zub u
 have hr := zq1 _ (fun b hb => (h2 b hb).2.2.1)
 have hall : (Lib.decDigits u).all isD = true := List.all_eq_true.2 fun b hb => (h2 b hb).1
 have hlen : (Lib.decDigits u).length ≤ 10 ∧ ((Lib.decDigits u).head? = some 48 → (Lib.decDigits u).length = 1) := by
  by_cases h0 : u = 0
  ·subst h0; rw [Lib.decDigits, dif_pos (by omega)]; exact ⟨by simp, fun _ => by simp⟩
  ·cases hq : Lib.decDigits u with
   | nil => exact absurd hq h3
   | cons c r =>
    rw [hq] at h1 h2 h4
    exact ⟨zq2 c r (h2 c (by simp)).1 (fun hc => h0 (h4 (by simp [hc]))) (by omega), fun hh => absurd (h4 hh) h0⟩
 cases hq : Lib.decDigits u with
 | nil => exact absurd hq h3
 | cons c r =>
  rw [hq] at h1 h2 hr hall hlen
  have hc := h2 c (by simp)
  have ht : (c :: r).take (c :: r).length = c :: r := by simp
  refine ⟨⟨?_, rfl⟩, fun b hb => by simp at hb; subst hb; exact hc.2.2.2⟩
  rw [zbi, if_neg (by rw [hc.2.1]; decide), if_pos hc.1, hr, ht]
  have hok : zos (c :: r) = true := by
   unfold zos
   simp only [Bool.and_eq_true, decide_eq_true_eq, hall, Bool.not_eq_true', Bool.and_eq_false_iff, decide_eq_false_iff_not]
   refine ⟨⟨⟨hlen.1, ?_⟩, trivial⟩, by omega⟩
   by_cases h48 : (c :: r).head? = some 48
   ·left; have := hlen.2 h48; omega
   ·right; simpa using h48
  rw [if_pos hok, h1]
theorem zl7 {n : Int} (h : zl5 n = true) : oneW (zec n).data.toList ⟨2, (zec n).data.toList.length, n.toNat⟩ ∧ ∀ b ∈ (zec n).data.toList.head?, isB b = false := by
 unfold zl5 at h
 simp only [Bool.and_eq_true, decide_eq_true_eq] at h
 have e : (zec n).data.toList = Lib.decDigits n.toNat := by
  unfold zec Lib.itoa
  rw [if_neg (by omega)]
 rw [e]
 exact z001 n.toNat (by omega)
end Go.Proofs.YtokjbpmjdcbogaaGreatDoor.Abs.Wri
/- Words that may be written are words that are read. -/
namespace Go.Proofs.YtokjbpmjdcbogaaGreatDoor.Abs.Wri
open Go Go.RowKit
set_option linter.unusedVariables false
set_option linter.unusedSimpArgs false
/-- Is it one word that begins with no blank? -/
def oneS (s : ByteArray) : Bool := match zdr s.data.toList with
 | .ok x => x.len == s.data.toList.length && !((s.data.toList.head?.map isB).getD true)
 | .error _ => false
theorem zuc {s : ByteArray} {x : W} (h : oneW s.data.toList x) (hb : ∀ b ∈ s.data.toList.head?, isB b = false) : oneS s = true := by
 unfold oneS
 obtain ⟨h1, h2⟩ := h
 rw [h1]
 cases hq : s.data.toList with
 | nil => rw [hq] at h1; cases h1
 | cons b r => rw [hq] at hb h2; simp [h2, hb b (by simp)]
theorem zot {s : ByteArray} (h : oneS s = true) : ∃ x, oneW s.data.toList x ∧ ∀ b ∈ s.data.toList.head?, isB b = false := by
 unfold oneS at h
 cases hw : zdr s.data.toList with
 | error e => rw [hw] at h; cases h
 | ok x =>
  rw [hw] at h
  simp only [Bool.and_eq_true, beq_iff_eq] at h
  refine ⟨x, ⟨hw, h.1⟩, fun b hb => ?_⟩
  have h2 := h.2
  rw [Option.mem_def.1 hb] at h2
  simpa using h2
theorem zud {s : ByteArray} (h : zi1 s = true) : oneS s = true := by
 obtain ⟨x, h1, _, h2⟩ := zq0 h
 exact zuc h1 h2
theorem zwo {n : Int} (h : zl5 n = true) : oneS (zec n) = true := zuc (zl7 h).1 (zl7 h).2
def Ow (x : Wr) : Prop := x.bad = false → ∀ w ∈ x.ws, oneS w = true
theorem Ow.app {x y : Wr} (hx : Ow x) (hy : Ow y) : Ow (x ++ y) := fun h w hw => by
 simp only [Wr.app_def, Bool.or_eq_false_iff] at h
 simp only [Wr.ws_app, List.mem_append] at hw
 rcases hw with hw | hw
 ·exact hx h.1 w hw
 ·exact hy h.2 w hw
theorem zdh : Ow Wr.nil := fun _ w hw => by cases hw
theorem ow_M (b : Bool) : Ow (wM b) := fun _ w hw => by cases hw
theorem ow_D (b : Int) : Ow (wD b) := fun _ w hw => by cases hw
theorem ow_W {l : List ByteArray} (h : ∀ w ∈ l, oneS w = true) : Ow (wW l) := fun _ w hw => h w hw
theorem ow_1 {w : ByteArray} (h : oneS w = true) : Ow (wW [w]) := ow_W fun v hv => by simp at hv; subst hv; exact h
theorem ow_2 {w v : ByteArray} (h : oneS w = true) (h' : oneS v = true) : Ow (wW [w, v]) := ow_W fun x hv => by
 simp at hv; rcases hv with rfl | rfl
 ·exact h
 ·exact h'
theorem ow_N (s : ByteArray) : Ow (wN s) := fun h w hw => by
 simp only [wN, List.mem_singleton] at hw; subst hw
 simp only [wN, Bool.not_eq_false'] at h
 exact zud h
theorem ow_I (n : Int) : Ow (wI n) := fun h w hw => by
 simp only [wI, List.mem_singleton] at hw; subst hw
 simp only [wI, Bool.not_eq_false'] at h
 exact zwo h
theorem ow_P {m : Bool} {f : Int → Wr} {p : Int} (h : ∀ q, Ow (f q)) : Ow (inP m f p) := by
 have h1 := h (p + 1)
 have h2 := h p
 unfold inP
 repeat' first
  | assumption | exact ow_D _ | exact ow_1 (by decide) | apply Ow.app | split
theorem ow_B {f : Int → Wr} {b : Int} (h : ∀ q, Ow (f q)) : Ow (inB f b) := by
 have h1 := h (b + 1)
 unfold inB
 repeat' first
  | assumption | exact ow_D _ | exact ow_1 (by decide) | apply Ow.app
theorem zl8 (e : z04) : Ow (zed e) := by
 unfold zed
 repeat' first
  | exact ow_M _ | exact ow_I _ | exact ow_N _ | apply Ow.app | split
theorem z91 (k : Int) : oneS (zg4 k) = true := by unfold zg4; split <;> decide
theorem zd9 (k : Int) : oneS (opW k) = true := by unfold opW; split <;> decide
theorem za3 (k : Int) : oneS (zk2 k) = true := by unfold zk2; split <;> decide
theorem ow_E : ∀ (e : z04) (p : Int), Ow (sE e p)
 | ⟨k, n, s, []⟩, p => by simp only [sE]; exact zl8 _
 | ⟨k, n, s, [x]⟩, p => by
  simp only [sE]
  split
  ·exact Ow.app (ow_1 (by decide)) (Ow.app (ow_D _) (ow_P (ow_E x)))
  ·exact zl8 _
 | ⟨k, n, s, [l, r]⟩, p => by
  simp only [sE]
  split
  ·exact Ow.app (ow_P (ow_E l)) (Ow.app (ow_1 (z91 k)) (ow_P (ow_E r)))
  ·exact zl8 _
 | ⟨k, n, s, a :: b :: c :: l⟩, p => by simp only [sE]; exact zl8 _
theorem ow_C (c : z31) (p : Int) : Ow (sC c p) := by
 unfold sC
 repeat' first
  | assumption | exact ow_N _ | exact ow_I _ | exact ow_M _ | exact ow_D _ | exact zdh | exact ow_E _ _ | exact ow_1 (za3 _) | exact ow_1 (z91 _) | exact ow_1 (zd9 _) | exact ow_1 (by decide) | exact ow_2 (by decide) (by decide)
  | exact ow_P (ow_E _) | apply Ow.app | split
mutual
theorem ow_S : ∀ (s : z03) (b p : Int), Ow (sS s b p)
 | .mk k n t e c bo el ar, b, p => by
  have h3 : Ow (inB (fun q => sL bo q p) b) := ow_B fun q => ow_L bo q p
  have h4 : Ow (inB (fun q => sL el q p) b) := ow_B fun q => ow_L el q p
  have h5 := ow_A ar b p
  simp only [sS]
  repeat' first
   | assumption | exact ow_N _ | exact ow_I _ | exact ow_M _ | exact ow_D _ | exact zdh | exact ow_E _ _ | exact ow_C _ _ | exact ow_1 (za3 _) | exact ow_1 (z91 _) | exact ow_1 (zd9 _) | exact ow_1 (by decide) | exact ow_2 (by decide) (by decide)
   | exact ow_P (ow_E _) | apply Ow.app | split
theorem ow_L : ∀ (l : List z03) (b p : Int), Ow (sL l b p)
 | [], b, p => by simp only [sL]; exact zdh
 | s :: r, b, p => by simp only [sL]; exact Ow.app (ow_S s b p) (ow_L r b p)
theorem ow_A : ∀ (l : List z0m) (b p : Int), Ow (sA l b p)
 | [], b, p => by simp only [sA]; exact zdh
 | .mk t v bo :: r, b, p => by
  have h3 : Ow (inB (fun q => sL bo q p) b) := ow_B fun q => ow_L bo q p
  simp only [sA]
  have h4 := ow_A r b p
  repeat' first
   | assumption | exact ow_N _ | exact ow_I _ | exact ow_M _ | exact ow_D _ | exact zdh | exact ow_E _ _ | exact ow_C _ _ | exact ow_1 (za3 _) | exact ow_1 (z91 _) | exact ow_1 (zd9 _) | exact ow_1 (by decide) | exact ow_2 (by decide) (by decide)
   | exact ow_P (ow_E _) | apply Ow.app | split
end
theorem zg6 {β : Type} {g : Nat → β → Wr} (h : ∀ i x, Ow (g i x)) : ∀ (l : List β) (i : Nat), Ow (z7b g i l)
 | [], i => by simp only [z7b]; exact zdh
 | x :: r, i => by simp only [z7b]; exact Ow.app (h i x) (zg6 h r (i + 1))
theorem z02e (i : Nat) (t : ByteArray) : Ow (wVar i t) := by
 unfold wVar
 repeat' first
  | assumption | exact ow_N _ | exact ow_I _ | exact ow_M _ | exact ow_D _ | exact zdh | exact ow_E _ _ | exact ow_C _ _ | exact ow_1 (za3 _) | exact ow_1 (z91 _) | exact ow_1 (zd9 _) | exact ow_1 (by decide) | exact ow_2 (by decide) (by decide)
  | exact ow_P (ow_E _) | apply Ow.app | split
theorem z04m (i : Nat) (t : z3s) : Ow (zk3 i t) := by
 unfold zk3
 repeat' first
  | assumption | exact ow_N _ | exact ow_I _ | exact ow_M _ | exact ow_D _ | exact zdh | exact ow_E _ _ | exact ow_C _ _ | exact ow_1 (za3 _) | exact ow_1 (z91 _) | exact ow_1 (zd9 _) | exact ow_1 (by decide) | exact ow_2 (by decide) (by decide)
  | exact ow_P (ow_E _) | apply Ow.app | split
theorem z04n (p : z2h) : Ow (sP p) := by
 have h1 := zg6 z02e p.Vars 0
 have h2 := ow_L p.Body 0 0
 unfold sP
 repeat' first
  | assumption | exact ow_N _ | exact ow_I _ | exact ow_M _ | exact ow_D _ | exact zdh | exact ow_E _ _ | exact ow_C _ _ | exact ow_1 (za3 _) | exact ow_1 (z91 _) | exact ow_1 (zd9 _) | exact ow_1 (by decide) | exact ow_2 (by decide) (by decide)
  | exact ow_P (ow_E _) | apply Ow.app | split
theorem z04o (r : z2g) : Ow (sR r) := by
 have h1 := zg6 z04m r.Moves 0
 unfold sR
 repeat' first
  | assumption | exact ow_N _ | exact ow_I _ | exact ow_M _ | exact ow_D _ | exact zdh | exact ow_E _ _ | exact ow_C _ _ | exact ow_1 (za3 _) | exact ow_1 (z91 _) | exact ow_1 (zd9 _) | exact ow_1 (by decide) | exact ow_2 (by decide) (by decide)
  | exact ow_P (ow_E _) | apply Ow.app | split
theorem z02f (i : Nat) (t : ByteArray) : Ow (wTag i t) := by
 unfold wTag
 repeat' first
  | assumption | exact ow_N _ | exact ow_I _ | exact ow_M _ | exact ow_D _ | exact zdh | exact ow_E _ _ | exact ow_C _ _ | exact ow_1 (za3 _) | exact ow_1 (z91 _) | exact ow_1 (zd9 _) | exact ow_1 (by decide) | exact ow_2 (by decide) (by decide)
  | exact ow_P (ow_E _) | apply Ow.app | split
theorem z04p (c : z23) : Ow (sCh c) := by
 have h1 := zg6 z02f c.Tags 0
 unfold sCh
 repeat' first
  | assumption | exact ow_N _ | exact ow_I _ | exact ow_M _ | exact ow_D _ | exact zdh | exact ow_E _ _ | exact ow_C _ _ | exact ow_1 (za3 _) | exact ow_1 (z91 _) | exact ow_1 (zd9 _) | exact ow_1 (by decide) | exact ow_2 (by decide) (by decide)
  | exact ow_P (ow_E _) | apply Ow.app | split
theorem z02g (s : z16) : Ow (sSys s) := by
 unfold sSys
 exact Ow.app (zg6 (fun _ => z04p) _ _) (Ow.app (zg6 (fun _ => z04o) _ _) (zg6 (fun _ => z04n) _ _))
end Go.Proofs.YtokjbpmjdcbogaaGreatDoor.Abs.Wri
/- With more fuel the same is read; reading told without fuel. -/
namespace Go.Proofs.YtokjbpmjdcbogaaGreatDoor.Abs.Par
open Go Go.RowKit Wri
set_option linter.unusedVariables false
set_option linter.unusedSimpArgs false
theorem bind_mono {α β : Type} {o o' : Rs α} {k k' : α → List Tok → Rs β} (h : o.bind k ≠ .out) (h1 : o ≠ .out → o' = o) (h2 : ∀ v r, k v r ≠ .out → k' v r = k v r) : o'.bind k' = o.bind k := by
 cases o with
 | ok v r => rw [h1 (by simp)]; exact h2 v r h
 | er c p => rw [h1 (by simp)]; rfl
 | out => exact absurd rfl h
structure Mo (L : Int) (f g : Nat) : Prop where
 fac : ∀ d ts, z6t L f d ts ≠ .out → z6t L g d ts = z6t L f d ts
 mul : ∀ d e ts, sMul L f d e ts ≠ .out → sMul L g d e ts = sMul L f d e ts
 term : ∀ d ts, zds L f d ts ≠ .out → zds L g d ts = zds L f d ts
 add : ∀ d e ts, sAdd L f d e ts ≠ .out → sAdd L g d e ts = sAdd L f d e ts
 exp : ∀ d ts, zdt L f d ts ≠ .out → zdt L g d ts = zdt L f d ts
theorem mo (L : Int) : ∀ f g, f ≤ g → Mo L f g := by
 intro f
 induction f with
 | zero => intro g _; exact ⟨fun d ts h => (h (by simp only [z6t])).elim, fun d e ts h => (h (by simp only [sMul])).elim, fun d ts h => (h (by simp only [zds])).elim, fun d e ts h => (h (by simp only [sAdd])).elim, fun d ts h => (h (by simp only [zdt])).elim⟩
 | succ f ih =>
  intro g hg
  cases g with
  | zero => omega
  | succ g =>
   have ih := ih g (by omega)
   refine ⟨fun d ts h => ?_, fun d e ts h => ?_, fun d ts h => ?_, fun d e ts h => ?_, fun d ts h => ?_⟩
   ·simp only [z6t] at h ⊢
    by_cases h1 : z33 (ByteArray.mk #[45]) ts = true
    ·rw [if_pos h1, if_pos h1]; rw [if_pos h1] at h
     by_cases h2 : d = 24
     ·rw [if_pos h2, if_pos h2]
     ·rw [if_neg h2, if_neg h2]; rw [if_neg h2] at h
      exact bind_mono h (ih.fac _ _) (fun v r _ => rfl)
    ·rw [if_neg h1, if_neg h1]; rw [if_neg h1] at h
     by_cases h1 : z33 (ByteArray.mk #[40]) ts = true
     ·rw [if_pos h1, if_pos h1]; rw [if_pos h1] at h
      by_cases h2 : d = 24
      ·rw [if_pos h2, if_pos h2]
      ·rw [if_neg h2, if_neg h2]; rw [if_neg h2] at h
       exact bind_mono h (ih.exp _ _) (fun v r _ => rfl)
     ·rw [if_neg h1, if_neg h1]
   ·simp only [sMul] at h ⊢
    cases hj : z56 mulS ts with
    | none => rfl
    | some j => rw [hj] at h; exact bind_mono h (ih.fac _ _) (fun v r hk => ih.mul _ _ _ hk)
   ·simp only [zds] at h ⊢
    exact bind_mono h (ih.fac _ _) (fun v r hk => ih.mul _ _ _ hk)
   ·simp only [sAdd] at h ⊢
    cases hj : z56 addS ts with
    | none => rfl
    | some j => rw [hj] at h; exact bind_mono h (ih.term _ _) (fun v r hk => ih.add _ _ _ hk)
   ·simp only [zdt] at h ⊢
    exact bind_mono h (ih.term _ _) (fun v r hk => ih.add _ _ _ hk)
structure MoS (L : Int) (f g : Nat) : Prop where
 stmts : ∀ i ts, z92 L f i ts ≠ .out → z92 L g i ts = z92 L f i ts
 stmt : ∀ i ts, z9u L f i ts ≠ some .out → z9u L g i ts = z9u L f i ts
 arm : ∀ i ts, sArm L f i ts ≠ .out → sArm L g i ts = sArm L f i ts
 arms : ∀ i ts, zda L f i ts ≠ .out → zda L g i ts = zda L f i ts
 block : ∀ i ts, z9t L f i ts ≠ .out → z9t L g i ts = z9t L f i ts
theorem zou {α : Type} {x : Rs α} (h : some x ≠ some .out) : x ≠ .out := fun e => h (by rw [e])
theorem moS (L : Int) : ∀ f g, f ≤ g → MoS L f g := by
 intro f
 induction f with
 | zero => intro g _; exact ⟨fun d ts h => (h (by simp only [z92])).elim, fun d ts h => (h (by simp only [z9u])).elim, fun d ts h => (h (by simp only [sArm])).elim, fun d ts h => (h (by simp only [zda])).elim, fun d ts h => (h (by simp only [z9t])).elim⟩
 | succ f ih =>
  intro g hg
  cases g with
  | zero => omega
  | succ g =>
   have ih := ih g (by omega)
   refine ⟨fun i ts h => ?_, fun i ts h => ?_, fun i ts h => ?_, fun i ts h => ?_, fun i ts h => ?_⟩
   ·simp only [z92] at h ⊢
    have hs : z9u L f i ts ≠ some .out := fun e => by rw [e] at h; exact h rfl
    rw [ih.stmt i ts hs]
    cases ho : z9u L f i ts with
    | none => rfl
    | some o => rw [ho] at h; exact bind_mono h (fun _ => rfl) (fun v r hk => bind_mono hk (ih.stmts _ _) (fun _ _ _ => rfl))
   ·simp only [z9u] at h ⊢
    by_cases h1 : z33 (ByteArray.mk #[105, 102]) ts = true
    ·rw [if_pos h1, if_pos h1]; rw [if_pos h1] at h
     refine congrArg some (bind_mono (zou h) (fun _ => rfl) fun c r1 h2 => bind_mono h2 (ih.block _ _) fun b r2 h3 => ?_)
     by_cases h4 : z33 (ByteArray.mk #[101, 108, 115, 101]) r2 = true
     ·rw [if_pos h4, if_pos h4]; rw [if_pos h4] at h3
      exact bind_mono h3 (ih.block _ _) (fun _ _ _ => rfl)
     ·rw [if_neg h4, if_neg h4]
    rw [if_neg h1, if_neg h1]; rw [if_neg h1] at h
    by_cases h1 : z33 (ByteArray.mk #[119, 104, 105, 108, 101]) ts = true
    ·rw [if_pos h1, if_pos h1]; rw [if_pos h1] at h
     exact congrArg some (bind_mono (zou h) (fun _ => rfl) fun c r1 h2 => bind_mono h2 (ih.block _ _) fun b r2 h3 => rfl)
    rw [if_neg h1, if_neg h1]; rw [if_neg h1] at h
    by_cases h1 : z33 (ByteArray.mk #[115, 101, 110, 100]) ts = true
    ·rw [if_pos h1, if_pos h1]
    rw [if_neg h1, if_neg h1]; rw [if_neg h1] at h
    by_cases h1 : z33 (ByteArray.mk #[114, 101, 99, 118]) ts = true
    ·rw [if_pos h1, if_pos h1]; rw [if_pos h1] at h
     exact congrArg some (bind_mono (zou h) (fun _ => rfl) fun c r1 h2 => bind_mono h2 (fun _ => rfl) fun b r2 h3 => bind_mono h3 (ih.arm _ _) fun _ _ h4 => bind_mono h4 (ih.arms _ _) fun _ _ _ => rfl)
    rw [if_neg h1, if_neg h1]
   ·simp only [sArm] at h ⊢
    exact bind_mono h (fun _ => rfl) fun _ _ h => bind_mono h (fun _ => rfl) fun _ _ h => bind_mono h (fun _ => rfl) fun _ _ h => bind_mono h (fun _ => rfl) fun _ _ h => bind_mono h (ih.block _ _) fun _ _ _ => rfl
   ·simp only [zda] at h ⊢
    by_cases h1 : z33 (ByteArray.mk #[125]) ts = true
    ·rw [if_pos h1, if_pos h1]
    rw [if_neg h1, if_neg h1]; rw [if_neg h1] at h
    exact bind_mono h (ih.arm _ _) fun _ _ h => bind_mono h (ih.arms _ _) fun _ _ _ => rfl
   ·simp only [z9t] at h ⊢
    by_cases h1 : (z33 (ByteArray.mk #[123]) ts && decide (i = 24)) = true
    ·rw [if_pos h1, if_pos h1]
    rw [if_neg h1, if_neg h1]; rw [if_neg h1] at h
    exact bind_mono h (fun _ => rfl) fun _ _ h => bind_mono h (ih.stmts _ _) fun _ _ _ => rfl
/-! ### Reading, told without fuel -/
section
variable (L : Int)
def BF (d : Nat) (ts : List Tok) (e : z1m) (r : List Tok) : Prop := ∃ f0, ∀ f, f0 ≤ f → z6t L f d ts = .ok e r
def BM (d : Nat) (a : z1m) (ts : List Tok) (e : z1m) (r : List Tok) : Prop := ∃ f0, ∀ f, f0 ≤ f → sMul L f d a ts = .ok e r
def BT (d : Nat) (ts : List Tok) (e : z1m) (r : List Tok) : Prop := ∃ f0, ∀ f, f0 ≤ f → zds L f d ts = .ok e r
def BA (d : Nat) (a : z1m) (ts : List Tok) (e : z1m) (r : List Tok) : Prop := ∃ f0, ∀ f, f0 ≤ f → sAdd L f d a ts = .ok e r
def BE (d : Nat) (ts : List Tok) (e : z1m) (r : List Tok) : Prop := ∃ f0, ∀ f, f0 ≤ f → zdt L f d ts = .ok e r
end
section
variable {L : Int} {d : Nat} {ts r r' : List Tok} {a e e' : z1m}
theorem BE.eX (h : BE L 0 ts e r) : eX L ts = .ok e r := by
 obtain ⟨f0, h⟩ := h
 have := (mo L (4 * ts.length + 3) (max f0 (4 * ts.length + 3)) (Nat.le_max_right _ _)).exp 0 ts zue
 unfold Par.eX
 rw [← this]
 exact h _ (Nat.le_max_left _ _)
theorem z02h {t : Tok} (hk : t.kind = 2) : BF L d (t :: r) ⟨1, (t.num : Int), nB, []⟩ r := ⟨1, fun f hf => by
 cases f with
 | zero => omega
 | succ f => simp [z6t, z33, sOf, sNum, hk, Rs.bind]⟩
theorem z002 {t : Tok} (hk : t.kind = 1) : BF L d (t :: r) ⟨2, 0, ⟨t.text.toArray⟩, []⟩ r := ⟨1, fun f hf => by
 cases f with
 | zero => omega
 | succ f => simp [z6t, z33, sOf, zai, hk, Rs.bind]⟩
theorem z02i (h : z33 (ByteArray.mk #[45]) ts = true) (hd : d ≠ 24) (h2 : BF L (d + 1) ts.tail e r) : BF L d ts ⟨3, 0, nB, [e]⟩ r := by
 obtain ⟨f0, h2⟩ := h2
 refine ⟨f0 + 1, fun f hf => ?_⟩
 cases f with
 | zero => omega
 | succ f =>
  simp only [z6t]
  rw [if_pos h, if_neg hd, h2 f (by omega)]
  rfl
theorem z02j (h0 : z33 (ByteArray.mk #[45]) ts = false) (h : z33 (ByteArray.mk #[40]) ts = true) (hd : d ≠ 24) (h2 : BE L (d + 1) ts.tail e r) (h3 : z33 (ByteArray.mk #[41]) r = true) : BF L d ts e r.tail := by
 obtain ⟨f0, h2⟩ := h2
 refine ⟨f0 + 1, fun f hf => ?_⟩
 cases f with
 | zero => omega
 | succ f =>
  simp only [z6t]
  rw [if_neg (by simp [h0]), if_pos h, if_neg hd, h2 f (by omega)]
  simp only [Rs.bind, z7l, h3, if_true]
theorem zov (h : z56 mulS ts = none) : BM L d a ts a ts := ⟨1, fun f hf => by
 cases f with
 | zero => omega
 | succ f => simp only [sMul, h]⟩
theorem z003 {j : Nat} {k : z1m} (h : z56 mulS ts = some j) (h1 : BF L d ts.tail k r) (h2 : BM L d ⟨6 + (j : Int), 0, nB, [a, k]⟩ r e' r') : BM L d a ts e' r' := by
 obtain ⟨f1, h1⟩ := h1
 obtain ⟨f2, h2⟩ := h2
 refine ⟨f1 + f2 + 1, fun f hf => ?_⟩
 cases f with
 | zero => omega
 | succ f =>
  simp only [sMul, h]
  rw [h1 f (by omega)]
  exact h2 f (by omega)
theorem bt (h1 : BF L d ts e r) (h2 : BM L d e r e' r') : BT L d ts e' r' := by
 obtain ⟨f1, h1⟩ := h1
 obtain ⟨f2, h2⟩ := h2
 refine ⟨f1 + f2 + 1, fun f hf => ?_⟩
 cases f with
 | zero => omega
 | succ f =>
  simp only [zds]
  rw [h1 f (by omega)]
  exact h2 f (by omega)
theorem zuf (h : z56 addS ts = none) : BA L d a ts a ts := ⟨1, fun f hf => by
 cases f with
 | zero => omega
 | succ f => simp only [sAdd, h]⟩
theorem z004 {j : Nat} {k : z1m} (h : z56 addS ts = some j) (h1 : BT L d ts.tail k r) (h2 : BA L d ⟨4 + (j : Int), 0, nB, [a, k]⟩ r e' r') : BA L d a ts e' r' := by
 obtain ⟨f1, h1⟩ := h1
 obtain ⟨f2, h2⟩ := h2
 refine ⟨f1 + f2 + 1, fun f hf => ?_⟩
 cases f with
 | zero => omega
 | succ f =>
  simp only [sAdd, h]
  rw [h1 f (by omega)]
  exact h2 f (by omega)
theorem be (h1 : BT L d ts e r) (h2 : BA L d e r e' r') : BE L d ts e' r' := by
 obtain ⟨f1, h1⟩ := h1
 obtain ⟨f2, h2⟩ := h2
 refine ⟨f1 + f2 + 1, fun f hf => ?_⟩
 cases f with
 | zero => omega
 | succ f =>
  simp only [zdt]
  rw [h1 f (by omega)]
  exact h2 f (by omega)
end
section
variable (L : Int)
def BSs (i : Nat) (ts : List Tok) (l : List z0t) (r : List Tok) : Prop := ∃ f0, ∀ f, f0 ≤ f → z92 L f i ts = .ok l r
def BS1 (i : Nat) (ts : List Tok) (s : z0t) (r : List Tok) : Prop := ∃ f0, ∀ f, f0 ≤ f → z9u L f i ts = some (.ok s r)
def BAr (i : Nat) (ts : List Tok) (s : z4p) (r : List Tok) : Prop := ∃ f0, ∀ f, f0 ≤ f → sArm L f i ts = .ok s r
def BAs (i : Nat) (ts : List Tok) (s : List z4p) (r : List Tok) : Prop := ∃ f0, ∀ f, f0 ≤ f → zda L f i ts = .ok s r
def BB (i : Nat) (ts : List Tok) (s : List z0t) (r : List Tok) : Prop := ∃ f0, ∀ f, f0 ≤ f → z9t L f i ts = .ok s r
end
section
variable {L : Int} {i : Nat} {ts r r' : List Tok}
theorem BSs.body {l : List z0t} (h : BSs L 0 ts l r) (hne : zmy L ts ≠ .out) : zmy L ts = .ok l r := by
 obtain ⟨f0, h⟩ := h
 have := (moS L (3 * ts.length + 2) (max f0 (3 * ts.length + 2)) (Nat.le_max_right _ _)).stmts 0 ts hne
 unfold zmy
 rw [← this]
 exact h _ (Nat.le_max_left _ _)
theorem z005 (h : ∀ f, z9u L (f + 1) i ts = none) : BSs L i ts [] ts := ⟨2, fun f hf => by
 cases f with
 | zero => omega
 | succ f => cases f with
  | zero => omega
  | succ f => simp only [z92, h]⟩
theorem zwp {s : z0t} {l : List z0t} (h1 : BS1 L i ts s r) (h2 : BSs L i r l r') : BSs L i ts (s :: l) r' := by
 obtain ⟨f1, h1⟩ := h1
 obtain ⟨f2, h2⟩ := h2
 refine ⟨f1 + f2 + 1, fun f hf => ?_⟩
 cases f with
 | zero => omega
 | succ f =>
  simp only [z92]
  rw [h1 f (by omega)]
  simp only [Rs.bind]
  rw [h2 f (by omega)]
theorem z006 (h : z33 (ByteArray.mk #[125]) ts = true) : BAs L i ts [] ts := ⟨1, fun f hf => by
 cases f with
 | zero => omega
 | succ f => simp only [zda, h, if_true]⟩
theorem zwq {s : z4p} {l : List z4p} (h : z33 (ByteArray.mk #[125]) ts = false) (h1 : BAr L i ts s r) (h2 : BAs L i r l r') : BAs L i ts (s :: l) r' := by
 obtain ⟨f1, h1⟩ := h1
 obtain ⟨f2, h2⟩ := h2
 refine ⟨f1 + f2 + 1, fun f hf => ?_⟩
 cases f with
 | zero => omega
 | succ f =>
  simp only [zda, h, Bool.false_eq_true, if_false]
  rw [h1 f (by omega)]
  simp only [Rs.bind]
  rw [h2 f (by omega)]
end
end Go.Proofs.YtokjbpmjdcbogaaGreatDoor.Abs.Par
/- What is written is parsed back: words and expressions. -/
namespace Go.Proofs.YtokjbpmjdcbogaaGreatDoor.Abs.Par
open Go Go.RowKit Wri
set_option linter.unusedVariables false
set_option linter.unusedSimpArgs false
/-! ### Words and what they are read as -/
def IsT (w : ByteArray) (t : Tok) : Prop := t.text = w.data.toList ∧ ∃ x, oneW w.data.toList x ∧ t.kind = x.kind ∧ t.num = x.num
def isK (w : ByteArray) : Bool := match zdr w.data.toList with | .ok x => decide (x.kind ≥ 3) | .error _ => false
def wIdx : List ByteArray → ByteArray → Option Nat
 | [], _ => none
 | v :: l, w => if w.data.toList == v.data.toList then some 0 else (wIdx l w).map (· + 1)
section
variable {w w' : ByteArray} {t : Tok} {r : List Tok}
theorem IsT.kind (h : IsT w t) (hk : isK w = true) : t.kind ≥ 3 := by
 obtain ⟨h1, x, ⟨h2, _⟩, h3, _⟩ := h
 unfold isK at hk; rw [h2] at hk
 rw [h3]; simpa using hk
theorem IsT.sees (h : IsT w t) (hk : isK w = true) : z33 w (t :: r) = true := by
 have := h.kind hk
 simp [z33, h.1, this]
theorem IsT.no (h : IsT w t) (hne : (w.data.toList == w'.data.toList) = false) : z33 w' (t :: r) = false := by
 simp only [z33, h.1, hne, Bool.and_false]
theorem IsT.which (h : IsT w t) (hk : isK w = true) : ∀ ws, z56 ws (t :: r) = wIdx ws w
 | [] => rfl
 | v :: l => by
  have := h.kind hk
  have e : decide (t.kind ≥ 3) = true := by simpa using this
  simp only [z56, wIdx, IsT.which h hk l, z33, h.1, e, Bool.true_and]
theorem IsT.of (h : IsT w t) (hk : isK w = true) : sOf 1 (t :: r) = false := by
 have := h.kind hk
 simp only [sOf, beq_eq_false_iff_ne]; omega
theorem IsT.must {L : Int} (h : IsT w t) (hk : isK w = true) : z7l L w (t :: r) = .ok () r := by
 unfold z7l; rw [if_pos (h.sees hk)]; rfl
theorem zow (h : t.kind = 1) : z33 w (t :: r) = false := by simp [z33, h]
theorem z02k (h : t.kind = 2) : z33 w (t :: r) = false := by simp [z33, h]
theorem zug {ts : List Tok} (h : z33 w ts = true) : sOf 1 ts = false := by
 cases ts with
 | nil => cases h
 | cons t r =>
  simp only [z33, Bool.and_eq_true, decide_eq_true_eq] at h
  simp only [sOf, beq_eq_false_iff_ne]; omega
theorem zg7 {ts : List Tok} (h : z33 w ts = true) (hne : (w.data.toList == w'.data.toList) = false) : z33 w' ts = false := by
 cases ts with
 | nil => rfl
 | cons t r =>
  simp only [z33, Bool.and_eq_true, beq_iff_eq] at h
  simp only [z33, h.2, hne, Bool.and_false]
theorem z8u {L : Int} {s : ByteArray} (h : t.kind = 1) (ht : t.text = s.data.toList) : zai L (t :: r) = .ok s r := by
 simp [zai, h, ht]
theorem zuh {L : Int} {n : Int} (h : t.kind = 2) (ht : (t.num : Int) = n) : sNum L (t :: r) = .ok n r := by
 simp [sNum, h, ht]
end
def Rw : List ByteArray → List Tok → List Tok → Prop
 | [], ts, r => ts = r
 | w :: ws, ts, r => ∃ t ts', ts = t :: ts' ∧ IsT w t ∧ Rw ws ts' r
theorem Rw.app : ∀ {a b : List ByteArray} {ts r : List Tok}, Rw (a ++ b) ts r → ∃ m, Rw a ts m ∧ Rw b m r
 | [], b, ts, r, h => ⟨ts, rfl, h⟩
 | w :: a, b, ts, r, h => by
  obtain ⟨t, ts', e, ht, h⟩ := h
  obtain ⟨m, h1, h2⟩ := Rw.app h
  exact ⟨m, ⟨t, ts', e, ht, h1⟩, h2⟩
/-- These words may be, and so they are read. -/
def G (x : Wr) (ts r : List Tok) : Prop := x.bad = false ∧ x.dp = false ∧ Rw x.ws ts r
section
variable {x y : Wr} {ts r : List Tok}
theorem G.app (h : G (x ++ y) ts r) : ∃ m, G x ts m ∧ G y m r := by
 obtain ⟨h1, h2, h3⟩ := h
 simp only [Wr.bad_app, Wr.dp_app, Bool.or_eq_false_iff, Wr.ws_app] at h1 h2 h3
 obtain ⟨m, h4, h5⟩ := h3.app
 exact ⟨m, ⟨h1.1, h2.1, h4⟩, ⟨h1.2, h2.2, h5⟩⟩
theorem G.w {w : ByteArray} (h : G (Wri.wW [w]) ts r) : ∃ t, ts = t :: r ∧ IsT w t := by
 obtain ⟨_, _, t, ts', e, ht, h⟩ := h
 have h : ts' = r := h
 subst h
 exact ⟨t, e, ht⟩
theorem G.w2 {w v : ByteArray} (h : G (Wri.wW [w, v]) ts r) : ∃ t t', ts = t :: t' :: r ∧ IsT w t ∧ IsT v t' := by
 obtain ⟨_, _, t, ts', e, ht, t', ts2, e', ht', h⟩ := h
 have h : ts2 = r := h
 subst h; subst e'
 exact ⟨t, t', e, ht, ht'⟩
theorem G.d {q : Int} (h : G (wD q) ts r) : q ≤ 24 ∧ ts = r := by
 obtain ⟨_, h2, h3⟩ := h
 simp only [wD, decide_eq_false_iff_not] at h2
 exact ⟨by omega, h3⟩
theorem G.m {b : Bool} (h : G (Wri.wM b) ts r) : b = true ∧ ts = r := by
 obtain ⟨h1, _, h3⟩ := h
 simp only [Wri.wM, Bool.not_eq_false'] at h1
 exact ⟨h1, h3⟩
theorem G.nil (h : G Wr.nil ts r) : ts = r := h.2.2
theorem G.n {s : ByteArray} (h : G (wN s) ts r) : ∃ t, ts = t :: r ∧ t.kind = 1 ∧ t.text = s.data.toList := by
 obtain ⟨h1, _, t, ts', e, ⟨ht, x, ⟨hx, _⟩, hk, _⟩, h3⟩ := h
 have h3 : ts' = r := h3
 subst h3
 simp only [wN, Bool.not_eq_false'] at h1
 obtain ⟨y, ⟨hy, _⟩, hk', _⟩ := zq0 h1
 rw [hx] at hy
 injection hy with hy
 subst hy
 exact ⟨t, e, by rw [hk, hk'], ht⟩
theorem G.i {n : Int} (h : G (wI n) ts r) : ∃ t, ts = t :: r ∧ t.kind = 2 ∧ (t.num : Int) = n := by
 obtain ⟨h1, _, t, ts', e, ⟨ht, x, ⟨hx, _⟩, hk, hn⟩, h3⟩ := h
 have h3 : ts' = r := h3
 subst h3
 simp only [wI, Bool.not_eq_false'] at h1
 obtain ⟨⟨hy, _⟩, _⟩ := zl7 h1
 rw [hx] at hy
 injection hy with hy
 subst hy
 refine ⟨t, e, hk, ?_⟩
 unfold zl5 at h1
 simp only [Bool.and_eq_true, decide_eq_true_eq] at h1
 rw [hn]
 show ((n.toNat : Nat) : Int) = n
 omega
end
/-! ### Expressions -/
def bkE : z04 → z1m
 | ⟨k, n, s, []⟩ => if k == 1 then ⟨1, n, nB, []⟩ else ⟨2, 0, s, []⟩
 | ⟨k, n, s, [x]⟩ => ⟨3, 0, nB, [bkE x]⟩
 | ⟨k, n, s, [l, r]⟩ => ⟨k, 0, nB, [bkE l, bkE r]⟩
 | ⟨k, n, s, a :: b :: c :: l⟩ => zE
structure RtE (L : Int) (e : z04) : Prop where
 fac : z9v e.Kind = false → ∀ (d : Nat) ts r, G (sE e (d : Int)) ts r → BF L d ts (bkE e) r
 term : sumK e.Kind = false → ∀ (d : Nat) ts r e' r', G (sE e (d : Int)) ts r → BM L d (bkE e) r e' r' → BT L d ts e' r'
 exp : ∀ (d : Nat) ts r e' r', G (sE e (d : Int)) ts r → z56 mulS r = none → BA L d (bkE e) r e' r' → BE L d ts e' r'
section
variable {L : Int} {e : z04}
theorem RtE.of_fac (h : ∀ (d : Nat) ts r, G (sE e (d : Int)) ts r → BF L d ts (bkE e) r) : RtE L e :=
 ⟨fun _ => h, fun _ d ts r e' r' hg hm => bt (h d ts r hg) hm, fun d ts r e' r' hg hn ha => be (bt (h d ts r hg) (zov hn)) ha⟩
theorem RtE.of_term (hp : z9v e.Kind = true) (h : ∀ (d : Nat) ts r e' r', G (sE e (d : Int)) ts r → BM L d (bkE e) r e' r' → BT L d ts e' r') : RtE L e :=
 ⟨fun h' => absurd (hp.symm.trans h') (by decide), fun _ => h, fun d ts r e' r' hg hn ha => be (h d ts r _ _ hg (zov hn)) ha⟩
theorem RtE.of_exp (hp : z9v e.Kind = true) (hs : sumK e.Kind = true) (h : ∀ (d : Nat) ts r e' r', G (sE e (d : Int)) ts r → z56 mulS r = none → BA L d (bkE e) r e' r' → BE L d ts e' r') : RtE L e :=
 ⟨fun h' => absurd (hp.symm.trans h') (by decide), fun h' => absurd (hs.symm.trans h') (by decide), h⟩
theorem zy7 (ih : RtE L e) {d : Nat} {ts r : List Tok} (h : G (inP true (sE e) (d : Int)) ts r) : BF L d ts (bkE e) r := by
 simp only [inP, if_true] at h
 replace h := h.app; obtain ⟨m1, h1, h⟩ := h
 obtain ⟨t, rfl, ht⟩ := h1.w
 replace h := h.app; obtain ⟨m2, h2, h⟩ := h
 obtain ⟨hd, rfl⟩ := h2.d
 obtain ⟨m3, h3, h4⟩ := h.app
 obtain ⟨t', rfl, ht'⟩ := h4.w
 have h3 : G (sE e ((d + 1 : Nat) : Int)) m1 (t' :: r) := by simpa using h3
 exact z02j (ht.no (by decide)) (ht.sees (by decide)) (by omega) (ih.exp (d + 1) _ _ _ _ h3 (by rw [ht'.which (by decide)]; decide) (zuf (by rw [ht'.which (by decide)]; decide))) (ht'.sees (by decide))
theorem zui (ih : RtE L e) {m : Bool} (hm : m = false → z9v e.Kind = false) {d : Nat} {ts r : List Tok} (h : G (inP m (sE e) (d : Int)) ts r) : BF L d ts (bkE e) r := by
 cases m with
 | true => exact zy7 ih h
 | false => exact ih.fac (hm rfl) d ts r h
theorem zq3 (ih : RtE L e) {m : Bool} (hm : m = false → sumK e.Kind = false) {d : Nat} {ts r r' : List Tok} {e' : z1m} (h : G (inP m (sE e) (d : Int)) ts r) (hb : BM L d (bkE e) r e' r') : BT L d ts e' r' := by
 cases m with
 | true => exact bt (zy7 ih h) hb
 | false => exact ih.term (hm rfl) d ts r e' r' h hb
theorem zl9 {ts r : List Tok} (h : G (zed e) ts r) : e.Kids = [] ∧ ((e.Kind = 1 ∧ ∃ t, ts = t :: r ∧ t.kind = 2 ∧ (t.num : Int) = e.Num) ∨ (e.Kind = 2 ∧ ∃ t, ts = t :: r ∧ t.kind = 1 ∧ t.text = e.Name.data.toList)) := by
 unfold zed at h
 obtain ⟨m, h1, h2⟩ := h.app
 obtain ⟨hk, rfl⟩ := h1.m
 refine ⟨?_, ?_⟩
 ·have : e.Kids.length = 0 := by simpa using hk
  exact List.eq_nil_of_length_eq_zero this
 ·split at h2
  ·rename_i h0
   exact .inl ⟨by simpa using h0, h2.i⟩
  ·obtain ⟨m', h3, h4⟩ := h2.app
   obtain ⟨h5, rfl⟩ := h3.m
   exact .inr ⟨by simpa using h5, h4.n⟩
theorem zrr {k : Int} (h : z9v k = true) : k = 4 ∨ k = 5 ∨ k = 6 ∨ k = 7 ∨ k = 8 := by
 unfold z9v at h
 simp only [Bool.and_eq_true, decide_eq_true_eq] at h
 omega
theorem zwr {k : Int} {t : Tok} {m : List Tok} (hk : z9v k = true) (hs : sumK k = true) (ht : IsT (zg4 k) t) : z56 mulS (t :: m) = none ∧ ∃ j : Nat, z56 addS (t :: m) = some j ∧ 4 + (j : Int) = k := by
 rcases zrr hk with rfl | rfl | rfl | rfl | rfl
 ·exact ⟨by rw [ht.which (by decide)]; decide, 0, by rw [ht.which (by decide)]; decide, by decide⟩
 ·exact ⟨by rw [ht.which (by decide)]; decide, 1, by rw [ht.which (by decide)]; decide, by decide⟩
 all_goals exact absurd hs (by decide)
theorem zws {k : Int} {t : Tok} {m : List Tok} (hk : z9v k = true) (hs : sumK k = false) (ht : IsT (zg4 k) t) : ∃ j : Nat, z56 mulS (t :: m) = some j ∧ 6 + (j : Int) = k := by
 rcases zrr hk with rfl | rfl | rfl | rfl | rfl
 ·exact absurd hs (by decide)
 ·exact absurd hs (by decide)
 ·exact ⟨0, by rw [ht.which (by decide)]; decide, by decide⟩
 ·exact ⟨1, by rw [ht.which (by decide)]; decide, by decide⟩
 ·exact ⟨2, by rw [ht.which (by decide)]; decide, by decide⟩
end
theorem rtE (L : Int) : ∀ e, RtE L e
 | ⟨k, n, s, []⟩ => RtE.of_fac fun d ts r h => by
  simp only [sE] at h
  obtain ⟨_, ⟨h1, t, rfl, h2, h3⟩ | ⟨h1, t, rfl, h2, h3⟩⟩ := zl9 h
  ·have := z02h (L := L) (d := d) (r := r) h2
   have h1 : k = 1 := h1
   have h3 : (t.num : Int) = n := h3
   subst h1
   rw [h3] at this
   simpa [bkE] using this
  ·have := z002 (L := L) (d := d) (r := r) h2
   have h1 : k = 2 := h1
   have h3 : t.text = s.data.toList := h3
   subst h1
   rw [h3] at this
   simpa [bkE] using this
 | ⟨k, n, s, [x]⟩ => RtE.of_fac fun d ts r h => by
  have ih := rtE L x
  simp only [sE] at h
  split at h
  ·replace h := h.app; obtain ⟨m, h1, h⟩ := h
   obtain ⟨t, rfl, ht⟩ := h1.w
   replace h := h.app; obtain ⟨m2, h2, h⟩ := h
   obtain ⟨hd, rfl⟩ := h2.d
   have h : G (inP (z9v x.Kind) (sE x) ((d + 1 : Nat) : Int)) m r := by simpa using h
   have := z02i (L := L) (d := d) (ts := t :: m) (ht.sees (by decide)) (by omega) (zui ih (fun h => h) h)
   simpa [bkE] using this
  ·have := (zl9 h).1
   cases this
 | ⟨k, n, s, [l, x]⟩ =>
  if hk : z9v k = true then
   if hs : sumK k = true then RtE.of_exp hk hs fun d ts r e' r' h hn ha => by
    have il := rtE L l
    have ix := rtE L x
    simp only [sE, hk, hs, if_true, Bool.not_true, Bool.false_and, Bool.or_false] at h
    obtain ⟨m, h1, h2⟩ := h.app
    obtain ⟨m2, h3, h4⟩ := h2.app
    obtain ⟨t, rfl, ht⟩ := h3.w
    obtain ⟨hm, j, hj, ej⟩ := zwr (m := m2) hk hs ht
    have h1 : G (sE l (d : Int)) ts (t :: m2) := h1
    refine il.exp d ts _ e' r' h1 hm (z004 hj (zq3 ix (fun h => h) h4 (zov hn)) ?_)
    rw [ej]
    simpa [bkE] using ha
   else RtE.of_term hk fun d ts r e' r' h ha => by
    have il := rtE L l
    have ix := rtE L x
    have hs : sumK k = false := by simpa using hs
    simp only [sE, hk, hs, if_true, Bool.not_false, Bool.true_and] at h
    obtain ⟨m, h1, h2⟩ := h.app
    obtain ⟨m2, h3, h4⟩ := h2.app
    obtain ⟨t, rfl, ht⟩ := h3.w
    obtain ⟨j, hj, ej⟩ := zws (m := m2) hk hs ht
    refine zq3 il (fun h => h) h1 (z003 hj (zui ix (fun h => (by simpa using h : _ ∧ _).2) h4) ?_)
    rw [ej]
    simpa [bkE] using ha
  else RtE.of_fac fun d ts r h => by
   simp only [sE, hk, if_false, Bool.false_eq_true] at h
   have := (zl9 h).1
   cases this
 | ⟨k, n, s, a :: b :: c :: l⟩ => RtE.of_fac fun d ts r h => by
  simp only [sE] at h
  have := (zl9 h).1
  cases this
theorem rtX {L : Int} {e : z04} {ts r : List Tok} (h : G (sE e 0) ts r) (hm : z56 mulS r = none) (ha : z56 addS r = none) : eX L ts = .ok (bkE e) r :=
 ((rtE L e).exp 0 ts r _ _ h hm (zuf ha)).eX
/-! ### Comparisons -/
def bkC (c : z31) : z7t := ⟨c.Op, bkE c.L, bkE c.R⟩
theorem z04q {k : Int} {t : Tok} {m : List Tok} (hk : opOk k = true) (ht : IsT (opW k) t) : z56 mulS (t :: m) = none ∧ z56 addS (t :: m) = none ∧ ∃ j : Nat, z56 cmpS (t :: m) = some j ∧ 1 + (j : Int) = k := by
 unfold opOk at hk
 simp only [Bool.and_eq_true, decide_eq_true_eq] at hk
 have : k = 1 ∨ k = 2 ∨ k = 3 ∨ k = 4 ∨ k = 5 ∨ k = 6 := by omega
 rcases this with rfl | rfl | rfl | rfl | rfl | rfl
 ·exact ⟨by rw [ht.which (by decide)]; decide, by rw [ht.which (by decide)]; decide, 0, by rw [ht.which (by decide)]; decide, by decide⟩
 ·exact ⟨by rw [ht.which (by decide)]; decide, by rw [ht.which (by decide)]; decide, 1, by rw [ht.which (by decide)]; decide, by decide⟩
 ·exact ⟨by rw [ht.which (by decide)]; decide, by rw [ht.which (by decide)]; decide, 2, by rw [ht.which (by decide)]; decide, by decide⟩
 ·exact ⟨by rw [ht.which (by decide)]; decide, by rw [ht.which (by decide)]; decide, 3, by rw [ht.which (by decide)]; decide, by decide⟩
 ·exact ⟨by rw [ht.which (by decide)]; decide, by rw [ht.which (by decide)]; decide, 4, by rw [ht.which (by decide)]; decide, by decide⟩
 ·exact ⟨by rw [ht.which (by decide)]; decide, by rw [ht.which (by decide)]; decide, 5, by rw [ht.which (by decide)]; decide, by decide⟩
theorem rtC {L : Int} {c : z31} {ts r : List Tok} (h : G (sC c 0) ts r) : zjf L ts = .ok (bkC c) r := by
 unfold sC at h
 replace h := h.app; obtain ⟨m1, h1, h⟩ := h
 obtain ⟨t1, rfl, q1⟩ := h1.w
 replace h := h.app; obtain ⟨m2, h2, h⟩ := h
 replace h := h.app; obtain ⟨m3, h3, h⟩ := h
 replace h := h.app; obtain ⟨m4, h4, h⟩ := h
 obtain ⟨t5, rfl, q5⟩ := h.w
 split at h3
 ·rename_i ho
  obtain ⟨t3, rfl, q3⟩ := h3.w
  obtain ⟨n1, n2, j, hj, ej⟩ := z04q (m := m3) ho q3
  unfold zjf
  rw [q1.must (by decide)]
  simp only [Rs.bind]
  rw [rtX h2 n1 n2]
  simp only [hj, List.tail_cons]
  rw [rtX h4 (by rw [q5.which (by decide)]; decide) (by rw [q5.which (by decide)]; decide)]
  simp only [q5.must (L := L) (by decide), ej]
  rfl
 ·cases h3.m.1
end Go.Proofs.YtokjbpmjdcbogaaGreatDoor.Abs.Par
/- What is written is parsed back: statements. -/
namespace Go.Proofs.YtokjbpmjdcbogaaGreatDoor.Abs.Par
open Go Go.RowKit Wri
set_option linter.unusedVariables false
set_option linter.unusedSimpArgs false
mutual
def bkS : z03 → z0t
 | .mk k n t e c bo el ar =>
  if k == 1 then .mk 1 n nB (bkE e) zC [] [] []
  else if k == 2 then .mk 2 nB nB zE (bkC c) (bkL bo) (bkL el) []
  else if k == 3 then .mk 3 nB nB zE (bkC c) (bkL bo) [] []
  else if k == 4 then .mk 4 n t (bkE e) zC [] [] []
  else if k == 5 then .mk 5 n nB zE zC [] [] (bkA ar)
  else if k == 6 then .mk 6 nB nB zE (bkC c) [] [] []
  else .mk 7 n nB zE zC [] [] []
def bkL : List z03 → List z0t
 | [] => []
 | s :: r => bkS s :: bkL r
def bkA : List z0m → List z4p
 | [] => []
 | .mk t v b :: r => .mk t v (bkL b) :: bkA r
end
/-! ### What a statement begins with -/
def kwS : List ByteArray := [(ByteArray.mk #[105, 102]), (ByteArray.mk #[119, 104, 105, 108, 101]), (ByteArray.mk #[115, 101, 110, 100]), (ByteArray.mk #[114, 101, 99, 118]), (ByteArray.mk #[97, 115, 115, 101, 114, 116]), (ByteArray.mk #[105, 110, 112, 117, 116])]
theorem z02l {s : z03} {b p : Int} {ts r : List Tok} (h : G (sS s b p) ts r) : ∃ t ts', ts = t :: ts' ∧ (t.kind = 1 ∨ ∃ w ∈ kwS, IsT w t) := by
 obtain ⟨k, n, tg, e, c, bo, el, ar⟩ := s
 simp only [sS] at h
 split at h
 ·replace h := h.app; obtain ⟨m, h1, h⟩ := h
  obtain ⟨t, rfl, h2, _⟩ := h1.n
  exact ⟨t, m, rfl, .inl h2⟩
 split at h
 ·replace h := h.app; obtain ⟨m, h1, h⟩ := h
  obtain ⟨t, rfl, h2⟩ := h1.w
  exact ⟨t, m, rfl, .inr ⟨_, by simp [kwS], h2⟩⟩
 split at h
 ·replace h := h.app; obtain ⟨m, h1, h⟩ := h
  obtain ⟨t, rfl, h2⟩ := h1.w
  exact ⟨t, m, rfl, .inr ⟨_, by simp [kwS], h2⟩⟩
 split at h
 ·replace h := h.app; obtain ⟨m, h1, h⟩ := h
  obtain ⟨t, rfl, h2⟩ := h1.w
  exact ⟨t, m, rfl, .inr ⟨_, by simp [kwS], h2⟩⟩
 split at h
 ·replace h := h.app; obtain ⟨m, h1, h⟩ := h
  obtain ⟨t, rfl, h2⟩ := h1.w
  exact ⟨t, m, rfl, .inr ⟨_, by simp [kwS], h2⟩⟩
 split at h
 ·replace h := h.app; obtain ⟨m, h1, h⟩ := h
  obtain ⟨t, rfl, h2⟩ := h1.w
  exact ⟨t, m, rfl, .inr ⟨_, by simp [kwS], h2⟩⟩
 split at h
 ·replace h := h.app; obtain ⟨m, h1, h⟩ := h
  obtain ⟨t, rfl, h2⟩ := h1.w
  exact ⟨t, m, rfl, .inr ⟨_, by simp [kwS], h2⟩⟩
 ·cases h.m.1
theorem zuj {l : List z03} {b p : Int} {ts r : List Tok} {w : ByteArray} (hw : kwS.all (fun v => !(v.data.toList == w.data.toList)) = true) (h : G (sL l b p) ts r) (hr : z33 w r = false) : z33 w ts = false := by
 cases l with
 | nil => simp only [sL] at h; rw [h.nil]; exact hr
 | cons s l =>
  simp only [sL] at h
  replace h := h.app; obtain ⟨m, h1, h⟩ := h
  obtain ⟨t, ts', rfl, h2 | ⟨v, hv, h2⟩⟩ := z02l h1
  ·exact zow h2
  ·have := List.all_eq_true.1 hw v hv
   exact h2.no (by simpa using this)
theorem zwt {L : Int} {i f : Nat} {ts : List Tok} (h : z33 (ByteArray.mk #[125]) ts = true) : z9u L (f + 1) i ts = none := by
 simp only [z9u]
 rw [zg7 h (by decide), zg7 h (by decide), zg7 h (by decide), zg7 h (by decide), zg7 h (by decide), zg7 h (by decide), zug h]
 simp only [Bool.false_eq_true, if_false]
/-! ### Statements -/
section
variable {L : Int}
theorem rtB {bo : List z03} (ih : ∀ (i : Nat) ts r, G (sL bo (i : Int) 0) ts r → z33 (ByteArray.mk #[125]) r = true → BSs L i ts (bkL bo) r) {i : Nat} {ts r : List Tok} (h : G (inB (fun q => sL bo q 0) (i : Int)) ts r) : BB L i ts (bkL bo) r := by
 unfold inB at h
 replace h := h.app; obtain ⟨m1, h1, h⟩ := h
 obtain ⟨t1, rfl, q1⟩ := h1.w
 replace h := h.app; obtain ⟨m2, h2, h⟩ := h
 obtain ⟨hd, rfl⟩ := h2.d
 replace h := h.app; obtain ⟨m3, h3, h⟩ := h
 obtain ⟨t4, rfl, q4⟩ := h.w
 have h3 : G (sL bo ((i + 1 : Nat) : Int) 0) m1 (t4 :: r) := by simpa using h3
 obtain ⟨f0, hf⟩ := ih (i + 1) _ _ h3 (q4.sees (by decide))
 refine ⟨f0 + 1, fun f hf' => ?_⟩
 cases f with
 | zero => omega
 | succ f =>
  have e : decide (i = 24) = false := by simp; omega
  simp only [z9t, e, Bool.and_false, Bool.false_eq_true, if_false, q1.must (L := L) (by decide), Rs.bind]
  rw [hf f (by omega)]
  simp only [q4.must (L := L) (by decide)]
mutual
theorem rtS : ∀ (s : z03) (i : Nat) (ts r : List Tok), G (sS s (i : Int) 0) ts r → z33 (ByteArray.mk #[101, 108, 115, 101]) r = false → BS1 L i ts (bkS s) r
 | .mk k n tg e c bo el ar, i, ts, r, h, hr => by
  have hb := fun ts r => rtB (L := L) (bo := bo) (rtL bo) (i := i) (ts := ts) (r := r)
  have hl := fun ts r => rtB (L := L) (bo := el) (rtL el) (i := i) (ts := ts) (r := r)
  have ha := rtA ar
  simp only [sS] at h
  simp only [bkS]
  by_cases hk : (k == 1) = true
  ·rw [if_pos hk] at h ⊢
   replace h := h.app; obtain ⟨m1, h1, h⟩ := h
   obtain ⟨t1, rfl, k1, x1⟩ := h1.n
   replace h := h.app; obtain ⟨m2, h2, h⟩ := h
   obtain ⟨t2, rfl, q2⟩ := h2.w
   replace h := h.app; obtain ⟨m3, h3, h⟩ := h
   obtain ⟨t4, rfl, q4⟩ := h.w
   refine ⟨1, fun f hf => ?_⟩
   cases f with
   | zero => omega
   | succ f =>
    have e : sOf 1 (t1 :: t2 :: m2) = true := by simp [sOf, k1]
    simp only [z9u, zow k1, Bool.false_eq_true, if_false, e, if_true, zee, z8u (L := L) k1 x1, Rs.bind, q2.must (L := L) (by decide), rtX (L := L) h3 (by rw [q4.which (by decide)]; decide) (by rw [q4.which (by decide)]; decide), q4.must (L := L) (by decide)]
  rw [if_neg hk] at h ⊢
  clear hk
  by_cases hk : (k == 2) = true
  ·rw [if_pos hk] at h ⊢
   replace h := h.app; obtain ⟨m1, h1, h⟩ := h
   obtain ⟨t1, rfl, q1⟩ := h1.w
   replace h := h.app; obtain ⟨m2, h2, h⟩ := h
   replace h := h.app; obtain ⟨m3, h3, h⟩ := h
   obtain ⟨f1, hf1⟩ := hb _ _ h3
   cases el with
   | nil =>
    have h : m3 = r := h.nil
    subst h
    refine ⟨f1 + 1, fun f hf => ?_⟩
    cases f with
    | zero => omega
    | succ f =>
     simp only [z9u, q1.sees (r := m1) (by decide), if_true, List.tail_cons, rtC (L := L) h2, Rs.bind]
     rw [hf1 f (by omega)]
     simp only [hr, Bool.false_eq_true, if_false, bkL]
   | cons s0 el =>
    simp only [List.isEmpty_cons, Bool.false_eq_true, if_false] at h
    replace h := h.app; obtain ⟨m4, h4, h⟩ := h
    obtain ⟨t4, rfl, q4⟩ := h4.w
    obtain ⟨f2, hf2⟩ := hl _ _ h
    refine ⟨f1 + f2 + 1, fun f hf => ?_⟩
    cases f with
    | zero => omega
    | succ f =>
     simp only [z9u, q1.sees (r := m1) (by decide), if_true, List.tail_cons, rtC (L := L) h2, Rs.bind]
     rw [hf1 f (by omega)]
     simp only [q4.sees (r := m4) (by decide), if_true, List.tail_cons]
     rw [hf2 f (by omega)]
  rw [if_neg hk] at h ⊢
  clear hk
  by_cases hk : (k == 3) = true
  ·rw [if_pos hk] at h ⊢
   replace h := h.app; obtain ⟨m1, h1, h⟩ := h
   obtain ⟨t1, rfl, q1⟩ := h1.w
   replace h := h.app; obtain ⟨m2, h2, h⟩ := h
   obtain ⟨f1, hf1⟩ := hb _ _ h
   refine ⟨f1 + 1, fun f hf => ?_⟩
   cases f with
   | zero => omega
   | succ f =>
    simp only [z9u, q1.sees (r := m1) (by decide), q1.no (r := m1) (w' := ByteArray.mk #[105, 102]) (by decide), Bool.false_eq_true, if_false, if_true, List.tail_cons, rtC (L := L) h2, Rs.bind]
    rw [hf1 f (by omega)]
  rw [if_neg hk] at h ⊢
  clear hk
  by_cases hk : (k == 4) = true
  ·rw [if_pos hk] at h ⊢
   replace h := h.app; obtain ⟨m1, h1, h⟩ := h
   obtain ⟨t1, rfl, q1⟩ := h1.w
   replace h := h.app; obtain ⟨m2, h2, h⟩ := h
   obtain ⟨t2, rfl, k2, x2⟩ := h2.n
   replace h := h.app; obtain ⟨m3, h3, h⟩ := h
   obtain ⟨t3, rfl, q3⟩ := h3.w
   replace h := h.app; obtain ⟨m4, h4, h⟩ := h
   obtain ⟨t4, rfl, k4, x4⟩ := h4.n
   replace h := h.app; obtain ⟨m5, h5, h⟩ := h
   obtain ⟨t5, rfl, q5⟩ := h5.w
   replace h := h.app; obtain ⟨m6, h6, h⟩ := h
   obtain ⟨t7, t8, rfl, q7, q8⟩ := h.w2
   refine ⟨1, fun f hf => ?_⟩
   cases f with
   | zero => omega
   | succ f =>
    simp only [z9u, q1.sees (r := t2 :: t3 :: t4 :: t5 :: m5) (by decide), q1.no (r := t2 :: t3 :: t4 :: t5 :: m5) (w' := ByteArray.mk #[105, 102]) (by decide), q1.no (r := t2 :: t3 :: t4 :: t5 :: m5) (w' := ByteArray.mk #[119, 104, 105, 108, 101]) (by decide), Bool.false_eq_true, if_false, if_true, List.tail_cons, zmz, Rs.bind,
     z8u (L := L) k2 x2, q3.must (L := L) (by decide), z8u (L := L) k4 x4, q5.must (L := L) (by decide), rtX (L := L) h6 (by rw [q7.which (by decide)]; decide) (by rw [q7.which (by decide)]; decide), q7.must (L := L) (by decide), q8.must (L := L) (by decide)]
  rw [if_neg hk] at h ⊢
  clear hk
  by_cases hk : (k == 5) = true
  ·rw [if_pos hk] at h ⊢
   replace h := h.app; obtain ⟨m1, h1, h⟩ := h
   obtain ⟨t1, rfl, q1⟩ := h1.w
   replace h := h.app; obtain ⟨m2, h2, h⟩ := h
   obtain ⟨t2, rfl, k2, x2⟩ := h2.n
   replace h := h.app; obtain ⟨m3, h3, h⟩ := h
   obtain ⟨he, rfl⟩ := h3.m
   replace h := h.app; obtain ⟨m4, h4, h⟩ := h
   obtain ⟨t4, rfl, q4⟩ := h4.w
   replace h := h.app; obtain ⟨m5, h5, h⟩ := h
   obtain ⟨t6, rfl, q6⟩ := h.w
   obtain ⟨_, hq⟩ := ha i _ _ h5 (q6.sees (by decide))
   cases har : bkA ar with
   | nil =>
    cases ar with
    | nil => cases he
    | cons a ar => obtain ⟨t, v, b⟩ := a; simp only [bkA] at har; cases har
   | cons a l =>
    obtain ⟨m6, ⟨f1, hf1⟩, f2, hf2⟩ := hq a l har
    refine ⟨f1 + f2 + 1, fun f hf => ?_⟩
    cases f with
    | zero => omega
    | succ f =>
     simp only [z9u, q1.sees (r := t2 :: t4 :: m4) (by decide), q1.no (r := t2 :: t4 :: m4) (w' := ByteArray.mk #[105, 102]) (by decide), q1.no (r := t2 :: t4 :: m4) (w' := ByteArray.mk #[119, 104, 105, 108, 101]) (by decide), q1.no (r := t2 :: t4 :: m4) (w' := ByteArray.mk #[115, 101, 110, 100]) (by decide), Bool.false_eq_true, if_false, if_true, List.tail_cons, Rs.bind,
      z8u (L := L) k2 x2, q4.must (L := L) (by decide)]
     rw [hf1 f (by omega)]
     simp only
     rw [hf2 f (by omega)]
     simp only [q6.must (L := L) (by decide)]
  rw [if_neg hk] at h ⊢
  clear hk
  by_cases hk : (k == 6) = true
  ·rw [if_pos hk] at h ⊢
   replace h := h.app; obtain ⟨m1, h1, h⟩ := h
   obtain ⟨t1, rfl, q1⟩ := h1.w
   replace h := h.app; obtain ⟨m2, h2, h⟩ := h
   obtain ⟨t3, rfl, q3⟩ := h.w
   refine ⟨1, fun f hf => ?_⟩
   cases f with
   | zero => omega
   | succ f =>
    simp only [z9u, q1.sees (r := m1) (by decide), q1.no (r := m1) (w' := ByteArray.mk #[105, 102]) (by decide), q1.no (r := m1) (w' := ByteArray.mk #[119, 104, 105, 108, 101]) (by decide), q1.no (r := m1) (w' := ByteArray.mk #[115, 101, 110, 100]) (by decide), q1.no (r := m1) (w' := ByteArray.mk #[114, 101, 99, 118]) (by decide), Bool.false_eq_true, if_false, if_true, List.tail_cons, zef, Rs.bind,
     rtC (L := L) h2, q3.must (L := L) (by decide)]
  rw [if_neg hk] at h ⊢
  clear hk
  by_cases hk : (k == 7) = true
  ·rw [if_pos hk] at h
   replace h := h.app; obtain ⟨m1, h1, h⟩ := h
   obtain ⟨t1, rfl, q1⟩ := h1.w
   replace h := h.app; obtain ⟨m2, h2, h⟩ := h
   obtain ⟨t2, rfl, k2, x2⟩ := h2.n
   obtain ⟨t3, rfl, q3⟩ := h.w
   refine ⟨1, fun f hf => ?_⟩
   cases f with
   | zero => omega
   | succ f =>
    simp only [z9u, q1.sees (r := t2 :: t3 :: r) (by decide), q1.no (r := t2 :: t3 :: r) (w' := ByteArray.mk #[105, 102]) (by decide), q1.no (r := t2 :: t3 :: r) (w' := ByteArray.mk #[119, 104, 105, 108, 101]) (by decide), q1.no (r := t2 :: t3 :: r) (w' := ByteArray.mk #[115, 101, 110, 100]) (by decide), q1.no (r := t2 :: t3 :: r) (w' := ByteArray.mk #[114, 101, 99, 118]) (by decide), q1.no (r := t2 :: t3 :: r) (w' := ByteArray.mk #[97, 115, 115, 101, 114, 116]) (by decide), Bool.false_eq_true, if_false, if_true, List.tail_cons, zi2, Rs.bind,
     z8u (L := L) k2 x2, q3.must (L := L) (by decide)]
  ·rw [if_neg hk] at h
   cases h.m.1
theorem rtL : ∀ (l : List z03) (i : Nat) (ts r : List Tok), G (sL l (i : Int) 0) ts r → z33 (ByteArray.mk #[125]) r = true → BSs L i ts (bkL l) r
 | [], i, ts, r, h, hr => by
  simp only [sL] at h
  simp only [bkL]
  rw [h.nil]
  exact z005 fun f => zwt hr
 | s :: l, i, ts, r, h, hr => by
  simp only [sL] at h
  simp only [bkL]
  obtain ⟨m, h1, h2⟩ := h.app
  have hn : z33 (ByteArray.mk #[101, 108, 115, 101]) m = false := zuj (by decide) h2 (zg7 hr (by decide))
  exact zwp (rtS s i ts m h1 hn) (rtL l i m r h2 hr)
theorem rtA : ∀ (l : List z0m) (i : Nat) (ts r : List Tok), G (sA l (i : Int) 0) ts r → z33 (ByteArray.mk #[125]) r = true → BAs L i ts (bkA l) r ∧ ∀ a l', bkA l = a :: l' → ∃ m, BAr L i ts a m ∧ BAs L i m l' r
 | [], i, ts, r, h, hr => by
  simp only [sA] at h
  simp only [bkA]
  rw [h.nil]
  exact ⟨z006 hr, fun a l' h => by cases h⟩
 | .mk t v bo :: l, i, ts, r, h, hr => by
  have hb := fun ts r => rtB (L := L) (bo := bo) (rtL bo) (i := i) (ts := ts) (r := r)
  simp only [sA] at h
  simp only [bkA]
  replace h := h.app; obtain ⟨m1, h1, h⟩ := h
  obtain ⟨t1, rfl, k1, x1⟩ := h1.n
  replace h := h.app; obtain ⟨m2, h2, h⟩ := h
  obtain ⟨t2, rfl, q2⟩ := h2.w
  replace h := h.app; obtain ⟨m3, h3, h⟩ := h
  obtain ⟨t3, rfl, k3, x3⟩ := h3.n
  replace h := h.app; obtain ⟨m4, h4, h⟩ := h
  obtain ⟨t4, rfl, q4⟩ := h4.w
  replace h := h.app; obtain ⟨m5, h5, h⟩ := h
  obtain ⟨f1, hf1⟩ := hb _ _ h5
  have hA : BAr L i (t1 :: t2 :: t3 :: t4 :: m4) (.mk t v (bkL bo)) m5 := by
   refine ⟨f1 + 1, fun f hf => ?_⟩
   cases f with
   | zero => omega
   | succ f =>
    simp only [sArm, z8u (L := L) k1 x1, Rs.bind, q2.must (L := L) (by decide), z8u (L := L) k3 x3, q4.must (L := L) (by decide)]
    rw [hf1 f (by omega)]
  have hR := (rtA l i m5 r h hr).1
  exact ⟨zwq (zow k1) hA hR, fun a l' e => by injection e with e1 e2; subst e1; subst e2; exact ⟨m5, hA, hR⟩⟩
end
end
end Go.Proofs.YtokjbpmjdcbogaaGreatDoor.Abs.Par
/- What is written is parsed back: channels, rules, processes, systems. -/
namespace Go.Proofs.YtokjbpmjdcbogaaGreatDoor.Abs.Par
open Go Go.RowKit Wri
set_option linter.unusedVariables false
set_option linter.unusedSimpArgs false
def ML {α : Type} (more : List Tok → Option (Rs α)) : List Tok → List α → List Tok → Prop
 | ts, [], r => ts = r
 | ts, v :: l, r => ∃ m, more ts = some (.ok v m) ∧ ML more m l r
theorem zg8 {α : Type} {more : List Tok → Option (Rs α)} (m : More more) : ∀ (l : List α) (ts r : List Tok) (f : Nat), ML more ts l r → more r = none → ts.length + 1 ≤ f → zbz more f ts = .ok l r
 | [], ts, r, f, h, hr, hf => by
  have h : ts = r := h
  subst h
  cases f with
  | zero => omega
  | succ f => simp only [zbz, hr]
 | v :: l, ts, r, f, h, hr, hf => by
  obtain ⟨s, h1, h2⟩ := h
  have := (m.suf _ _ _ h1).2
  cases f with
  | zero => omega
  | succ f =>
   simp only [zbz, h1, Rs.bind]
   rw [zg8 m l s r f h2 hr (by omega)]
theorem zg9 {α β : Type} {more : List Tok → Option (Rs α)} {g : Nat → β → Wr} {h : β → α} {i0 : Nat} (hs : ∀ i x ts m, i0 ≤ i → G (g i x) ts m → more ts = some (.ok (h x) m)) : ∀ (l : List β) (i : Nat) (ts r : List Tok), i0 ≤ i → G (z7b g i l) ts r → ML more ts (l.map h) r
 | [], i, ts, r, hi, hg => by simp only [z7b] at hg; exact hg.nil
 | x :: l, i, ts, r, hi, hg => by
  simp only [z7b] at hg
  obtain ⟨m, h1, h2⟩ := hg.app
  exact ⟨m, hs i x ts m hi h1, zg9 hs l (i + 1) m r (by omega) h2⟩
def bkCh (c : z23) : z9x := ⟨c.Name, c.Kind, c.Size, c.From, c.To, c.Tags⟩
def bkMo (c : z3s) : z96 := ⟨c.From, c.Tag, c.To⟩
def bkRu (c : z2g) : z9y := ⟨c.Chan, c.Moves.map bkMo⟩
def bkPr (c : z2h) : z9z := ⟨c.Name, c.Vars, bkL c.Body⟩
def zjg (s : z16) : z43 := ⟨s.Chans.map bkCh, s.Rules.map bkRu, s.Procs.map bkPr⟩
section
variable {L : Int} {ts r : List Tok}
theorem z007 {k : Int} {t : Tok} {m : List Tok} (hk : Wri.kindOk k = true) (ht : IsT (zk2 k) t) : ∃ j : Nat, z56 zs9 (t :: m) = some j ∧ (j : Int) = k := by
 unfold Wri.kindOk at hk
 simp only [Bool.and_eq_true, decide_eq_true_eq] at hk
 have : k = 0 ∨ k = 1 ∨ k = 2 := by omega
 rcases this with rfl | rfl | rfl
 ·exact ⟨0, by rw [ht.which (by decide)]; decide, by decide⟩
 ·exact ⟨1, by rw [ht.which (by decide)]; decide, by decide⟩
 ·exact ⟨2, by rw [ht.which (by decide)]; decide, by decide⟩
theorem rtCh {c : z23} (h : G (sCh c) ts r) : zjh L ts = some (.ok (bkCh c) r) := by
 obtain ⟨nm, k, z, fr, to, tg⟩ := c
 unfold sCh at h
 simp only at h
 replace h := h.app; obtain ⟨m1, h1, h⟩ := h
 obtain ⟨t1, rfl, q1⟩ := h1.w
 replace h := h.app; obtain ⟨m2, h2, h⟩ := h
 obtain ⟨t2, rfl, k2, x2⟩ := h2.n
 replace h := h.app; obtain ⟨m3, h3, h⟩ := h
 replace h := h.app; obtain ⟨m4, h4, h⟩ := h
 obtain ⟨t4, rfl, k4, x4⟩ := h4.i
 replace h := h.app; obtain ⟨m5, h5, h⟩ := h
 obtain ⟨t5, rfl, q5⟩ := h5.w
 replace h := h.app; obtain ⟨m6, h6, h⟩ := h
 obtain ⟨t6, rfl, k6, x6⟩ := h6.n
 replace h := h.app; obtain ⟨m7, h7, h⟩ := h
 obtain ⟨t7, rfl, q7⟩ := h7.w
 replace h := h.app; obtain ⟨m8, h8, h⟩ := h
 obtain ⟨t8, rfl, k8, x8⟩ := h8.n
 replace h := h.app; obtain ⟨m9, h9, h⟩ := h
 obtain ⟨t9, rfl, q9⟩ := h9.w
 replace h := h.app; obtain ⟨m10, h10, h⟩ := h
 obtain ⟨he, rfl⟩ := h10.m
 replace h := h.app; obtain ⟨m11, h11, h⟩ := h
 obtain ⟨t12, t13, rfl, q12, q13⟩ := h.w2
 cases tg with
 | nil => cases he
 | cons a l =>
  simp only [z7b] at h11
  obtain ⟨m12, h12, h13⟩ := h11.app
  have h12 : G (wN a) _ _ := h12
  obtain ⟨t14, rfl, k14, x14⟩ := h12.n
  have hml := zg9 (more := mTag L) (h := fun x => x) (i0 := 1) (fun i x ts m hi hg => by
   unfold wTag at hg
   rw [if_neg (by omega)] at hg
   replace hg := hg.app; obtain ⟨m1, h1, hg⟩ := hg
   obtain ⟨t1, rfl, q1⟩ := h1.w
   obtain ⟨t2, rfl, k2, x2⟩ := hg.n
   unfold mTag
   rw [if_pos (q1.sees (by decide)), List.tail_cons, z8u k2 x2]) l (0 + 1) _ _ (by omega) h13
  rw [List.map_id'] at hml
  have hmany := zg8 zn0 l m12 _ (m12.length + 1) hml (by unfold mTag; rw [if_neg (by rw [q12.no (by decide)]; decide)]) (Nat.le_refl _)
  split at h3
  ·rename_i hk
   obtain ⟨t3, rfl, q3⟩ := h3.w
   obtain ⟨j, hj, ej⟩ := z007 (m := t4 :: t5 :: t6 :: t7 :: t8 :: t9 :: t14 :: m12) hk q3
   unfold zjh
   rw [if_pos (q1.sees (by decide)), List.tail_cons]
   unfold zn1
   simp only [z8u (L := L) k2 x2, Rs.bind, hj, List.tail_cons, zuh (L := L) k4 x4, q5.must (L := L) (by decide), z8u (L := L) k6 x6, q7.must (L := L) (by decide), z8u (L := L) k8 x8, q9.must (L := L) (by decide), z8u (L := L) k14 x14, hmany, q12.must (L := L) (by decide), q13.must (L := L) (by decide), ej]
   rfl
  ·cases h3.m.1
theorem rtRu {c : z2g} (h : G (sR c) ts r) : zji L ts = some (.ok (bkRu c) r) := by
 obtain ⟨nm, mv⟩ := c
 unfold sR at h
 simp only at h
 replace h := h.app; obtain ⟨m1, h1, h⟩ := h
 obtain ⟨t1, rfl, q1⟩ := h1.w
 replace h := h.app; obtain ⟨m2, h2, h⟩ := h
 obtain ⟨t2, rfl, k2, x2⟩ := h2.n
 replace h := h.app; obtain ⟨m3, h3, h⟩ := h
 obtain ⟨t3, rfl, q3⟩ := h3.w
 replace h := h.app; obtain ⟨m4, h4, h⟩ := h
 obtain ⟨t5, rfl, q5⟩ := h.w
 have hml := zg9 (more := zk4 L) (h := bkMo) (i0 := 0) (fun i x ts m hi hg => by
  unfold zk3 at hg
  replace hg := hg.app; obtain ⟨m1, h1, hg⟩ := hg
  obtain ⟨t1, rfl, k1, x1⟩ := h1.i
  replace hg := hg.app; obtain ⟨m2, h2, hg⟩ := hg
  obtain ⟨t2, rfl, k2, x2⟩ := h2.n
  replace hg := hg.app; obtain ⟨m3, h3, hg⟩ := hg
  obtain ⟨t3, rfl, k3, x3⟩ := h3.i
  obtain ⟨t4, rfl, q4⟩ := hg.w
  unfold zk4
  rw [z02k k1]
  simp only [Bool.false_eq_true, if_false, zn2, zuh (L := L) k1 x1, Rs.bind, z8u (L := L) k2 x2, zuh (L := L) k3 x3, q4.must (L := L) (by decide)]
  rfl) mv 0 _ _ (by omega) h4
 have hmany := zg8 zjj _ m3 _ (m3.length + 1) hml (by unfold zk4; rw [if_pos (q5.sees (by decide))]) (Nat.le_refl _)
 unfold zji
 rw [if_pos (q1.sees (by decide)), List.tail_cons]
 unfold zn3
 simp only [z8u (L := L) k2 x2, Rs.bind, q3.must (L := L) (by decide), hmany, q5.must (L := L) (by decide)]
 rfl
theorem rtPr {c : z2h} (h : G (sP c) ts r) : zjk L ts = some (.ok (bkPr c) r) := by
 obtain ⟨nm, vs, bo⟩ := c
 unfold sP at h
 simp only at h
 replace h := h.app; obtain ⟨m1, h1, h⟩ := h
 obtain ⟨t1, rfl, q1⟩ := h1.w
 replace h := h.app; obtain ⟨m2, h2, h⟩ := h
 obtain ⟨t2, rfl, k2, x2⟩ := h2.n
 replace h := h.app; obtain ⟨m3, h3, h⟩ := h
 obtain ⟨t3, rfl, q3⟩ := h3.w
 replace h := h.app; obtain ⟨m4, h4, h⟩ := h
 replace h := h.app; obtain ⟨m5, h5, h⟩ := h
 obtain ⟨t6, rfl, q6⟩ := h.w
 have hml := zg9 (more := mVar L) (h := fun x => x) (i0 := 0) (fun i x ts m hi hg => by
  unfold wVar at hg
  replace hg := hg.app; obtain ⟨m1, h1, hg⟩ := hg
  obtain ⟨t1, rfl, q1⟩ := h1.w
  replace hg := hg.app; obtain ⟨m2, h2, hg⟩ := hg
  obtain ⟨t2, rfl, k2, x2⟩ := h2.n
  obtain ⟨t3, rfl, q3⟩ := hg.w
  unfold mVar
  rw [if_pos (q1.sees (by decide)), List.tail_cons]
  simp only [z8u (L := L) k2 x2, Rs.bind, q3.must (L := L) (by decide)]) vs 0 _ _ (by omega) h4
 rw [List.map_id'] at hml
 have hno : z33 (ByteArray.mk #[118, 97, 114]) m4 = false := zuj (by decide) h5 (q6.no (by decide))
 have hmany := zg8 zn4 vs m3 _ (m3.length + 1) hml (by unfold mVar; rw [hno]; rfl) (Nat.le_refl _)
 have hb := (rtL (L := L) bo 0 m4 _ h5 (q6.sees (by decide))).body zuk
 unfold zjk
 rw [if_pos (q1.sees (by decide)), List.tail_cons]
 unfold zn5
 simp only [z8u (L := L) k2 x2, Rs.bind, q3.must (L := L) (by decide), hmany, hb, q6.must (L := L) (by decide)]
 rfl
theorem zn6 {β : Type} {g : β → Wr} {w w' : ByteArray} {p q : β → Wr} (hg : ∀ x, g x = Wri.wW [w] ++ q x) (hne : (w.data.toList == w'.data.toList) = false) {l : List β} {i : Nat} (h : G (z7b (fun _ => g) i l) ts r) (hr : z33 w' r = false) : z33 w' ts = false := by
 cases l with
 | nil => simp only [z7b] at h; rw [h.nil]; exact hr
 | cons x l =>
  simp only [z7b] at h
  obtain ⟨m, h1, _⟩ := h.app
  rw [hg] at h1
  obtain ⟨m2, h2, _⟩ := h1.app
  obtain ⟨t, rfl, ht⟩ := h2.w
  exact ht.no hne
theorem z04r {s : z16} (h : G (Wri.sSys s) ts []) : sAll L ts = .ok (zjg s) [] := by
 unfold Wri.sSys at h
 replace h := h.app; obtain ⟨m1, h1, h⟩ := h
 obtain ⟨m2, h2, h3⟩ := h.app
 have n3 : ∀ w : ByteArray, (([112, 114, 111, 99] : List UInt8) == w.data.toList) = false → z33 w m2 = false := fun w hw => zn6 (w := ByteArray.mk #[112, 114, 111, 99]) (p := sP) (fun x => rfl) hw h3 rfl
 have n2 : z33 (ByteArray.mk #[99, 104, 97, 110]) m1 = false := zn6 (w := ByteArray.mk #[114, 117, 108, 101]) (p := sR) (fun x => rfl) (by decide) h2 (n3 _ (by decide))
 have l1 := zg9 (more := zjh L) (h := bkCh) (i0 := 0) (fun i x ts m hi hg => rtCh hg) s.Chans 0 _ _ (by omega) h1
 have l2 := zg9 (more := zji L) (h := bkRu) (i0 := 0) (fun i x ts m hi hg => rtRu hg) s.Rules 0 _ _ (by omega) h2
 have l3 := zg9 (more := zjk L) (h := bkPr) (i0 := 0) (fun i x ts m hi hg => rtPr hg) s.Procs 0 _ _ (by omega) h3
 have y1 := zg8 zla _ _ _ (ts.length + 1) l1 (by unfold zjh; rw [n2]; rfl) (Nat.le_refl _)
 have y2 := zg8 zlb _ _ _ (m1.length + 1) l2 (by unfold zji; rw [n3 _ (by decide)]; rfl) (Nat.le_refl _)
 have y3 := zg8 zox _ _ _ (m2.length + 1) l3 (by unfold zjk; rfl) (Nat.le_refl _)
 unfold sAll Par.sSys
 simp only [y1, Rs.bind, y2, y3]
 rfl
end
end Go.Proofs.YtokjbpmjdcbogaaGreatDoor.Abs.Par
/- Words put one behind the other are read; a text of what is written says what is written. -/
namespace Go.Proofs.YtokjbpmjdcbogaaGreatDoor.Abs.Par
open Go Go.RowKit Wri
set_option linter.unusedVariables false
set_option linter.unusedSimpArgs false
/-! ### A word and what stands behind it -/
theorem zjl : ∀ (w rest : Bs), runL w = w.length → (∀ b ∈ rest.head?, isA b = false) → runL (w ++ rest) = w.length
 | [], rest, _, hr => by
  cases rest with
  | nil => rfl
  | cons b r => rw [List.nil_append, zcu, if_neg (by rw [hr b (by simp)]; decide)]; rfl
 | b :: r, rest, h, hr => by
  rw [zcu] at h
  rw [List.cons_append, zcu]
  split at h
  ·rename_i hA
   rw [if_pos hA, zjl r rest (by simpa using h) hr]
   rfl
  ·simp at h
theorem zsa {b : UInt8} {r rest : Bs} (h : zdb (b :: r) = (b :: r).length) (hr : ∀ b ∈ rest.head?, b ≠ 61) : zdb (b :: r ++ rest) = (b :: r).length := by
 cases r with
 | nil =>
  simp only [zdb, List.length_cons, List.length_nil] at h ⊢
  cases rest with
  | nil => simpa using h
  | cons c q =>
   have : c ≠ 61 := hr c (by simp)
   simp only [List.cons_append, List.nil_append]
   simpa [this] using h
 | cons c r =>
  simp only [zdb] at h ⊢
  simp only [List.cons_append, List.length_cons] at h ⊢
  simpa using h
/-- Does what follows leave the word as it is? -/
def Leaves (w rest : Bs) : Prop := (w.head?.map isA = some true → ∀ b ∈ rest.head?, isA b = false) ∧ (w.head?.map isA = some false → ∀ b ∈ rest.head?, b ≠ 61)
theorem zul {b : UInt8} : isA b = true ↔ isL b = true ∨ isD b = true := by unfold isA; simp
theorem zum {w rest : Bs} {x : W} (h : oneW w x) (hl : Leaves w rest) : zdr (w ++ rest) = .ok x := by
  obtain ⟨h1, h2⟩ := h
  cases w with
  | nil => cases h1
  | cons b r =>
    have hA := hl.1
    have hS := hl.2
    simp only [List.head?_cons, Option.map_some, Option.some.injEq] at hA hS
    rw [zbi] at h1
    rw [List.cons_append, zbi]
    have ht : (b :: (r ++ rest)).take (b :: r).length = b :: r := by rw [← List.cons_append]; simp
    have htt : (b :: r).take (b :: r).length = b :: r := by simp
    split at h1
    · rename_i hL
      rw [if_pos hL]
      split at h1
      · cases h1
      · rename_i h12
        injection h1 with h1; subst h1
        have hr : runL (b :: r) = (b :: r).length := h2
        have hr' := zjl (b :: r) rest hr (hA (zul.2 (.inl hL)))
        rw [List.cons_append] at hr'
        have h12' : ¬ 12 < (b :: r).length := by rw [← hr]; exact h12
        rw [hr', if_neg h12', ht, hr, htt]
    · rename_i hL
      rw [if_neg hL]
      split at h1
      · rename_i hD
        rw [if_pos hD]
        split at h1
        · rename_i hn
          injection h1 with h1; subst h1
          have hr : runL (b :: r) = (b :: r).length := h2
          have hr' := zjl (b :: r) rest hr (hA (zul.2 (.inr hD)))
          rw [List.cons_append] at hr'
          rw [hr, htt] at hn
          rw [hr', ht, if_pos hn, hr, htt]
        · cases h1
      · rename_i hD
        rw [if_neg hD]
        split at h1
        · cases h1
        · rename_i hs
          injection h1 with h1; subst h1
          have hr : zdb (b :: r) = (b :: r).length := h2
          have hn : isA b = false := by
            cases hb : isA b with
            | false => rfl
            | true => rcases zul.1 hb with h | h
                      · exact absurd h hL
                      · exact absurd h hD
          have hr' := zsa (rest := rest) hr (hS hn)
          rw [List.cons_append] at hr'
          rw [hr', if_neg (by simp), hr]
theorem zwu {w rest : Bs} {x : W} (h : oneW w x) (hb : ∀ b ∈ w.head?, isB b = false) (hl : Leaves w rest) (p : Nat) :
  lexS (w ++ rest) p = (⟨x.kind, w, x.num, p⟩ :: (lexS rest (p + w.length)).1, (lexS rest (p + w.length)).2) := by
 have h1 := zum h hl
 obtain ⟨h0, h2⟩ := h
 cases w with
 | nil => cases h0
 | cons b r =>
  have hbb : isB b = false := hb b (by simp)
  rw [List.cons_append] at h1 ⊢
  rw [zun hbb h1]
  have e1 : (b :: (r ++ rest)).drop x.len = rest := by rw [h2, ← List.cons_append]; simp
  have e2 : (b :: (r ++ rest)).take x.len = b :: r := by rw [h2, ← List.cons_append]; simp
  rw [e1, e2, h2]
theorem zki : ∀ (s rest : Bs) (p : Nat), s.all isB = true → lexS (s ++ rest) p = lexS rest (p + s.length)
 | [], rest, p, _ => rfl
 | b :: s, rest, p, h => by
  simp only [List.all_cons, Bool.and_eq_true] at h
  rw [List.cons_append, zkj _ _ h.1, zki s rest (p + 1) h.2, List.length_cons, Nat.add_assoc, Nat.add_comm 1]
/-! ### A text of words, each with the blanks behind it -/
def txt : List (ByteArray × Bs) → Bs
 | [] => []
 | x :: l => x.1.data.toList ++ (x.2 ++ txt l)
def Ch : List (ByteArray × Bs) → Prop
 | [] => True
 | x :: l => oneS x.1 = true ∧ x.2.all isB = true ∧ Leaves x.1.data.toList (x.2 ++ txt l) ∧ Ch l
theorem zuo : ∀ (l : List (ByteArray × Bs)) (p : Nat), Ch l → (lexS (txt l) p).2 = none ∧ Rw (l.map Prod.fst) (lexS (txt l) p).1 []
 | [], p, _ => by rw [txt, zq4]; exact ⟨rfl, rfl⟩
 | x :: l, p, h => by
  obtain ⟨h1, h2, h3, h4⟩ := h
  obtain ⟨y, hy, hb⟩ := zot h1
  obtain ⟨i1, i2⟩ := zuo l (p + x.1.data.toList.length + x.2.length) h4
  simp only [txt]
  rw [zwu hy hb h3, zki _ _ _ h2]
  exact ⟨i1, _, _, rfl, ⟨rfl, y, hy, rfl, rfl⟩, i2⟩
theorem Rw.len : ∀ {ws : List ByteArray} {ts r : List Tok}, Rw ws ts r → ts.length = ws.length + r.length
 | [], ts, r, h => by have h : ts = r := h; subst h; simp
 | w :: ws, ts, r, h => by
  obtain ⟨t, ts', e, _, h⟩ := h
  have := Rw.len h
  subst e
  simp only [List.length_cons]; omega
theorem zq5 {s : z16} {t : ByteArray} {l : List (ByteArray × Bs)} (hb : (Wri.sSys s).bad = false) (hd : (Wri.sSys s).dp = false) (hn : (Wri.sSys s).ws.length ≤ 2000)
  (hl : l.map Prod.fst = (Wri.sSys s).ws) (ht : t.data.toList = txt l) (hc : Ch l) : gAll t = (zjg s, 0, 0) := by
 obtain ⟨h1, h2⟩ := zuo l 0 hc
 rw [hl] at h2
 have h3 := h2.len
 have h4 := z04r (L := (t.size : Int)) (s := s) ⟨hb, hd, h2⟩
 unfold gAll
 rw [ht]
 unfold told
 rw [h1]
 simp only
 rw [if_neg (by simp at h3; omega)]
 unfold fin
 simp only [bne_self_eq_false, Bool.false_eq_true, if_false, h4]
theorem zi3 {w : Bs} {b : UInt8} {rest : Bs} (hb : isB b = true) : Leaves w (b :: rest) := by
 have hA : isA b = false ∧ b ≠ 61 := by
  unfold isB at hb
  simp only [Bool.or_eq_true, beq_iff_eq] at hb
  rcases hb with rfl | rfl <;> decide
 exact ⟨fun _ c hc => by simp at hc; subst hc; exact hA.1, fun _ c hc => by simp at hc; subst hc; exact hA.2⟩
end Go.Proofs.YtokjbpmjdcbogaaGreatDoor.Abs.Par
/- The program finds two systems the same that differ in nothing that their kinds use; so what is parsed back is the same. -/
namespace Go.Proofs.YtokjbpmjdcbogaaGreatDoor.Abs.Par
open Go Go.RowKit Wri
set_option linter.unusedVariables false
set_option linter.unusedSimpArgs false
def Rel {α β : Type} (Q : α → β → Prop) (l : List α) (l' : List β) : Prop := l.length = l'.length ∧ ∀ (i : Nat) (x : α), l[i]? = some x → ∃ y, l'[i]? = some y ∧ Q x y
theorem Rel.nil {α β : Type} {Q : α → β → Prop} : Rel Q [] [] := ⟨rfl, fun i x h => by simp at h⟩
theorem Rel.cons {α β : Type} {Q : α → β → Prop} {a : α} {b : β} {l : List α} {l' : List β} (h : Q a b) (hr : Rel Q l l') : Rel Q (a :: l) (b :: l') := by
 refine ⟨by simp [hr.1], fun i x hi => ?_⟩
 cases i with
 | zero => simp at hi; subst hi; exact ⟨b, by simp, h⟩
 | succ i => simp at hi; obtain ⟨y, hy, hq⟩ := hr.2 i x hi; exact ⟨y, by simpa using hy, hq⟩
theorem Rel.map {α β γ : Type} {Q : α → β → Prop} (f : γ → α) (g : γ → β) : ∀ (l : List γ), (∀ x ∈ l, Q (f x) (g x)) → Rel Q (l.map f) (l.map g)
 | [], _ => Rel.nil
 | x :: l, h => Rel.cons (h x (by simp)) (Rel.map f g l fun y hy => h y (by simp [hy]))
theorem zlc {β γ O : Type} {Q : β → γ → Prop} {body : Int → Option (Sum Int (Sum O Unit))} {n H : Nat} {l : List β} {l' : List γ} (hr : Rel Q l l') (r : O) (hlen : l.length ≤ 4611686018427387904)
  (hs : ∀ (i : Nat) (x : β) (y : γ), idx l (i : Int) = some x → idx l' (i : Int) = some y → Q x y → x ∈ l → i < l.length → IntKind.i64.wrap ((i : Int) + 1) = ((i + 1 : Nat) : Int) → Sn n H (body (i : Int)) (.inl ((i + 1 : Nat) : Int)))
  (he : body (l.length : Int) = some (.inr (.inr ()))) : Sn n H (iter body 0) (.inr ()) := by
 have h := zup (n := n) (H := H) l (fun _ => true) r hlen (fun i x h0 h1 h2 h3 h4 => by
  obtain ⟨y, hy, hq⟩ := hr.2 i x h0
  have hi : i < l'.length := by rw [← hr.1]; exact h3
  have hy' : idx l' (i : Int) = some y := by rw [zfg hi]; rw [List.getElem?_eq_getElem hi] at hy; exact hy
  simpa using hs i x y h1 hy' hq h2 h3 h4) he
 have e : (l.all fun _ => true) = true := by simp
 rw [e] at h
 simpa using h
theorem zuq {β γ O : Type} {Q : β → γ → Prop} {body : Int → Option (Sum Int (Sum O Unit))} {l : List β} {l' : List γ} (hr : Rel Q l l') (r : O) (hlen : l.length ≤ 4611686018427387904)
  (hs : ∀ (i : Nat) (x : β) (y : γ), idx l (i : Int) = some x → idx l' (i : Int) = some y → Q x y → x ∈ l → i < l.length → IntKind.i64.wrap ((i : Int) + 1) = ((i + 1 : Nat) : Int) → body (i : Int) = some (.inl ((i + 1 : Nat) : Int)))
  (he : body (l.length : Int) = some (.inr (.inr ()))) : iter body 0 = some (.inr ()) := by
 rcases zlc (n := 0) (H := 0) hr r hlen (fun i x y h1 h2 h3 h4 h5 h6 => .inl (hs i x y h1 h2 h3 h4 h5 h6)) he with h | ⟨_, h⟩
 ·exact h
 ·omega
/-! ### Alike -/
mutual
def QE : z04 → z04 → Prop
 | ⟨k, m, s, l⟩, b => k = b.Kind ∧ (k = 1 → m = b.Num) ∧ (k = 2 → s = b.Name) ∧ QEs l b.Kids
def QEs : List z04 → List z04 → Prop
 | [], l' => l' = []
 | a :: l, l' => ∃ b r, l' = b :: r ∧ QE a b ∧ QEs l r
end
theorem QEs.rel : ∀ {l l' : List z04}, QEs l l' → Rel QE l l'
 | [], l', h => by simp only [QEs] at h; subst h; exact Rel.nil
 | a :: l, l', h => by
  simp only [QEs] at h
  obtain ⟨b, r, rfl, h1, h2⟩ := h
  exact Rel.cons h1 (QEs.rel h2)
def QC (c d : z31) : Prop := c.Op = d.Op ∧ QE c.L d.L ∧ QE c.R d.R
mutual
def QS : z03 → z03 → Prop
 | .mk k n t e c bo el ar, b => k = b.Kind ∧ (k = 1 → n = b.Name ∧ QE e b.E) ∧ (k = 2 → QC c b.C ∧ QL bo b.Body ∧ QL el b.Else) ∧ (k = 3 → QC c b.C ∧ QL bo b.Body) ∧ (k = 4 → n = b.Name ∧ t = b.Tag ∧ QE e b.E)
  ∧ (k = 5 → n = b.Name ∧ QA ar b.Arms) ∧ (k = 6 → QC c b.C) ∧ (k = 7 → n = b.Name)
def QL : List z03 → List z03 → Prop
 | [], l' => l' = []
 | a :: l, l' => ∃ b r, l' = b :: r ∧ QS a b ∧ QL l r
def QA : List z0m → List z0m → Prop
 | [], l' => l' = []
 | .mk t v bo :: l, l' => ∃ b r, l' = b :: r ∧ (t = b.Tag ∧ v = b.Var ∧ QL bo b.Body) ∧ QA l r
end
def QArm (a b : z0m) : Prop := a.Tag = b.Tag ∧ a.Var = b.Var ∧ QL a.Body b.Body
theorem QL.rel : ∀ {l l' : List z03}, QL l l' → Rel QS l l'
 | [], l', h => by simp only [QL] at h; subst h; exact Rel.nil
 | a :: l, l', h => by
  simp only [QL] at h
  obtain ⟨b, r, rfl, h1, h2⟩ := h
  exact Rel.cons h1 (QL.rel h2)
theorem QA.rel : ∀ {l l' : List z0m}, QA l l' → Rel QArm l l'
 | [], l', h => by simp only [QA] at h; subst h; exact Rel.nil
 | .mk t v bo :: l, l', h => by
  simp only [QA] at h
  obtain ⟨b, r, rfl, h1, h2⟩ := h
  exact Rel.cons h1 (QA.rel h2)
/-! ### The program's answer -/
theorem zq6 {α β : Type} {Q : α → β → Prop} {l : List α} {l' : List β} (h : Rel Q l l') : ((l.length : Int) != (l'.length : Int)) = false := by rw [h.1]; simp
mutual
theorem sm_E : ∀ (e e' : z04), QE e e' → szE e ≤ 400000000000 → ∀ n, Sn n (2 * szE e) (z52 n e e') true
 | ⟨k, m, s, l⟩, ⟨k', m', s', l'⟩, hq, hz, n => by
  simp only [szE] at hz ⊢
  simp only [QE] at hq
  obtain ⟨rfl, q1, q2, q3⟩ := hq
  have q3 := q3.rel
  have hm := z02m l (by omega)
  have hl := zn7 l
  have hL : ∀ n, Sn n (2 * szEs l + 1) (z2b n l l') true := fun n => by
   cases n with
   | zero => exact .inr ⟨rfl, by omega⟩
   | succ n =>
    simp only [z2b, zq6 q3, Bool.false_eq_true, if_false]
    refine (Sn.bind (f := Sum.elim (fun r => some r) (fun j1 => some true)) (zlc (O := Bool) (body := z4h (z52 n) (z2b n) l l') (n := n) (H := 2 * szEs l) q3 false (by omega) (fun i x y hx hy hq hxm hlt hw => by
     unfold z4h
     rw [if_pos (by simpa using hlt), hx]
     simp only [hy, Option.bind_eq_bind, Option.bind_some, hw]
     have := zn8 hxm
     exact Sn.bind (f := _) ((hm x hxm y hq n).mono (by omega)) (.inl rfl)) (by unfold z4h; rw [if_neg (by simp)])) (.inl rfl)).up
  cases n with
  | zero => exact .inr ⟨rfl, by omega⟩
  | succ n =>
   have hj : ((if (k != k) = true then some true else if (k == 1) = true then (if (m != m') = true then some true else if (k == 2) = true then some (!(s.toList == s'.toList)) else some false) else if (k == 2) = true then some (!(s.toList == s'.toList)) else some false) : Option Bool) = some false := by
    by_cases h1 : k = 1
    ·subst h1; rw [q1 rfl]; simp
    ·by_cases h2 : k = 2
     ·subst h2; rw [q2 rfl]; simp
     ·simp [h1, h2]
   simp only [z52, hj, Option.bind_eq_bind, Option.bind_some, Bool.false_eq_true, if_false, zeg]
   exact (hL n).up.mono (by omega)
theorem z02m : ∀ (l : List z04), szEs l ≤ 400000000000 → ∀ x ∈ l, ∀ y, QE x y → ∀ n, Sn n (2 * szE x) (z52 n x y) true
 | [], hz, x, h, y, hq, n => by cases h
 | e :: r, hz, x, h, y, hq, n => by
  simp only [szEs] at hz
  rcases List.mem_cons.1 h with h | h
  ·rw [h] at hq; rw [h]; exact sm_E e y hq (by omega) n
  ·exact z02m r (by omega) x h y hq n
end
theorem sm_e {e e' : z04} (hq : QE e e') (h : szE e ≤ 400000000000) : z9p e e' = some true := Sn.unf fun n => sm_E e e' hq h n
theorem sm_c {c d : z31} (hq : QC c d) (h : szC c ≤ 400000000000) : z87 c d = some true := by
 unfold szC at h
 unfold z87
 rw [sm_e hq.2.1 (by omega), sm_e hq.2.2 (by omega), hq.1]
 simp
theorem zih {l l' : List z03} (hq : QL l l') (hz : szL l ≤ 400000000000) (h : ∀ x ∈ l, ∀ y, QS x y → ∀ n, Sn n (2 * szS x) (z3n n x y) true) (n : Nat) : Sn n (2 * szL l) (z10 n l l') true := by
 have hl := zwv l
 have hp := z7j l
 have hr := hq.rel
 cases n with
 | zero => exact .inr ⟨rfl, by omega⟩
 | succ n =>
  simp only [z10, zq6 hr, Bool.false_eq_true, if_false]
  refine (Sn.bind (f := Sum.elim (fun r => some r) (fun j1 => some true)) (zlc (O := Bool) (body := z4i (z10 n) (z3n n) (z1i n) (z4d n) l l') (n := n) (H := 2 * szL l - 1) hr false (by omega) (fun i x y hx hy hq hxm hlt hw => by
   unfold z4i
   rw [if_pos (by simpa using hlt), hx]
   simp only [hy, Option.bind_eq_bind, Option.bind_some, hw]
   have := zq7 hxm
   exact Sn.bind (f := _) ((h x hxm y hq n).mono (by omega)) (.inl rfl)) (by unfold z4i; rw [if_neg (by simp)])) (.inl rfl)).up.mono (by omega)
theorem z008 {l l' : List z0m} (hq : QA l l') (hz : szA l ≤ 400000000000) (h : ∀ x ∈ l, ∀ y, QArm x y → ∀ n, Sn n (2 * szL x.Body + 1) (z4d n x y) true) (n : Nat) : Sn n (2 * szA l) (z1i n l l') true := by
 have hl := zld l
 have hp := zga l
 have hr := hq.rel
 cases n with
 | zero => exact .inr ⟨rfl, by omega⟩
 | succ n =>
  simp only [z1i, zq6 hr, Bool.false_eq_true, if_false]
  refine (Sn.bind (f := Sum.elim (fun r => some r) (fun j1 => some true)) (zlc (O := Bool) (body := z54 (z10 n) (z3n n) (z1i n) (z4d n) l l') (n := n) (H := 2 * szA l - 1) hr false (by omega) (fun i x y hx hy hq hxm hlt hw => by
   unfold z54
   rw [if_pos (by simpa using hlt), hx]
   simp only [hy, Option.bind_eq_bind, Option.bind_some, hw]
   have := zq8 hxm
   exact Sn.bind (f := _) ((h x hxm y hq n).mono (by omega)) (.inl rfl)) (by unfold z54; rw [if_neg (by simp)])) (.inl rfl)).up.mono (by omega)
mutual
theorem sm_S : ∀ (s s' : z03), QS s s' → szS s ≤ 400000000000 → ∀ n, Sn n (2 * szS s) (z3n n s s') true
 | .mk k nm tg e c bo el ar, .mk k' nm' tg' e' c' bo' el' ar', hq, hz, n => by
  simp only [szS] at hz ⊢
  have p1 := z7j bo
  have hb := fun hq => zih (l := bo) (l' := bo') hq (by omega) (sm_L bo (by omega))
  have he := fun hq => zih (l := el) (l' := el') hq (by omega) (sm_L el (by omega))
  have ha := fun hq => z008 (l := ar) (l' := ar') hq (by omega) (sm_A ar (by omega))
  simp only [QS] at hq
  dsimp only [z03.Kind, z03.Name, z03.Tag, z03.E, z03.C, z03.Body, z03.Else, z03.Arms] at hq
  obtain ⟨rfl, q1, q2, q3, q4, q5, q6, q7⟩ := hq
  cases n with
  | zero => exact .inr ⟨rfl, by omega⟩
  | succ n =>
   simp only [z3n]
   dsimp only [z03.Kind, z03.Name, z03.Tag, z03.E, z03.C, z03.Body, z03.Else, z03.Arms]
   simp only [zq9, Bool.false_eq_true, if_false, Option.bind_eq_bind, zeg]
   refine Sn.mono (h := 2 * (4 + szE e + szC c + szL bo + szL el + szA ar) - 1 + 1) (Sn.up ?_) (by omega)
   by_cases h1 : k = 1
   ·subst h1
    obtain ⟨rfl, qe⟩ := q1 rfl
    simp only [beq_self_eq_true, if_true, sm_e qe (by omega)]
    exact .inl rfl
   rw [if_neg (by simpa using h1)]
   by_cases h1 : k = 2
   ·subst h1
    obtain ⟨qc, qb, ql⟩ := q2 rfl
    simp only [beq_self_eq_true, if_true, sm_c qc (by omega), Option.bind_some]
    exact Sn.bind (f := _) ((hb qb n).mono (by omega)) (by simp only [if_true]; exact (he ql n).mono (by omega))
   rw [if_neg (by simpa using h1)]
   by_cases h1 : k = 3
   ·subst h1
    obtain ⟨qc, qb⟩ := q3 rfl
    simp only [beq_self_eq_true, if_true, sm_c qc (by omega), Option.bind_some]
    exact (hb qb n).mono (by omega)
   rw [if_neg (by simpa using h1)]
   by_cases h1 : k = 4
   ·subst h1
    obtain ⟨rfl, rfl, qe⟩ := q4 rfl
    simp only [beq_self_eq_true, if_true, sm_e qe (by omega)]
    exact .inl rfl
   rw [if_neg (by simpa using h1)]
   by_cases h1 : k = 5
   ·subst h1
    obtain ⟨rfl, qa⟩ := q5 rfl
    simp only [beq_self_eq_true, if_true]
    exact (ha qa n).mono (by omega)
   rw [if_neg (by simpa using h1)]
   by_cases h1 : k = 6
   ·subst h1
    simp only [beq_self_eq_true, if_true, sm_c (q6 rfl) (by omega)]
    exact .inl rfl
   rw [if_neg (by simpa using h1)]
   by_cases h1 : k = 7
   ·subst h1
    obtain rfl := q7 rfl
    simp only [beq_self_eq_true, if_true]
    exact .inl rfl
   have e7 : (k == 7) = false := by simpa using h1
   simp only [e7, Bool.false_eq_true, if_false]
   exact .inl rfl
theorem sm_L : ∀ (l : List z03), szL l ≤ 400000000000 → ∀ x ∈ l, ∀ y, QS x y → ∀ n, Sn n (2 * szS x) (z3n n x y) true
 | [], hz, x, h, y, hq, n => by cases h
 | e :: r, hz, x, h, y, hq, n => by
  simp only [szL] at hz
  rcases List.mem_cons.1 h with h | h
  ·rw [h] at hq; rw [h]; exact sm_S e y hq (by omega) n
  ·exact sm_L r (by omega) x h y hq n
theorem sm_A : ∀ (l : List z0m), szA l ≤ 400000000000 → ∀ x ∈ l, ∀ y, QArm x y → ∀ n, Sn n (2 * szL x.Body + 1) (z4d n x y) true
 | [], hz, x, h, y, hq, n => by cases h
 | .mk t v b :: r, hz, x, h, y, hq, n => by
  simp only [szA] at hz
  rcases List.mem_cons.1 h with h | h
  ·rw [h] at hq; rw [h]
   obtain ⟨t', v', b'⟩ := y
   obtain ⟨qt, qv, qb⟩ := hq
   have qt : t = t' := qt
   have qv : v = v' := qv
   subst qt; subst qv
   show Sn n (2 * szL b + 1) _ true
   have hb := zih (l := b) (l' := b') qb (by omega) (sm_L b (by omega))
   cases n with
   | zero => exact .inr ⟨rfl, by omega⟩
   | succ n =>
    simp only [z4d]
    dsimp only [z0m.Tag, z0m.Var, z0m.Body]
    simp only [beq_self_eq_true, if_true, Option.bind_eq_bind, zeg]
    exact (hb n).up
  ·exact sm_A r (by omega) x h y hq n
end
theorem sm_l {l l' : List z03} (hq : QL l l') (h : szL l ≤ 400000000000) : z7s l l' = some true := Sn.unf fun n => zih hq h (sm_L l h) n
def QP (p q : z2h) : Prop := p.Name = q.Name ∧ p.Vars = q.Vars ∧ QL p.Body q.Body
theorem z02n {s s' : z16} (h : zjm s ≤ 400000000000) (hc : s.Chans = s'.Chans) (hr : s.Rules = s'.Rules) (hp : Rel QP s.Procs s'.Procs) : zew s s' = some true := by
 have n1 := zam (c := szCh) (fun x => by unfold szCh; omega) s.Chans
 have n2 := zam (c := szR) (fun x => by unfold szR; omega) s.Rules
 have n3 := zam (c := szP) (fun x => by unfold szP; omega) s.Procs
 unfold zjm at h
 have e1 : z6b s.Rules s.Rules = some true := by
  unfold z6b
  rw [zii (body := z50 s.Rules s.Rules) s.Rules false (by omega) (fun i x hx hm hlt hw => by
   have hz := zan (c := szR) hm
   unfold szR at hz
   unfold z50 zeu
   rw [if_pos (by simpa using hlt), hx]
   simp only [Option.bind_eq_bind, Option.bind_some]
   rw [zsb (by unfold szR at h; omega)]
   simp [hw]) (by unfold z50; rw [if_neg (by simp)])]
  simp
 have e2 : z6c s.Procs s'.Procs = some true := by
  unfold z6c
  rw [zq6 hp, zuq (body := z55 s.Procs s'.Procs) hp false (by omega) (fun i x y hx hy hq hm hlt hw => by
   have hz := zan (c := szP) hm
   unfold szP at hz
   unfold z55 zev
   rw [if_pos (by simpa using hlt), hx]
   obtain ⟨q1, q2, q3⟩ := hq
   simp only [hy, Option.bind_eq_bind, Option.bind_some]
   rw [sm_l q3 (by unfold szP at h; omega), ← q1, ← q2, zn9 (by unfold szP at h; omega)]
   simp [hw]) (by unfold z55; rw [if_neg (by simp)])]
  simp
 have e3 : z5q s.Chans s.Chans = some true := by
  unfold z5q
  rw [zii (body := z4j s.Chans s.Chans) s.Chans false (by omega) (fun i x hx hm hlt hw => by
   have hz := zan (c := szCh) hm
   unfold szCh at hz
   unfold z4j zc6
   rw [if_pos (by simpa using hlt), hx]
   simp only [Option.bind_eq_bind, Option.bind_some]
   rw [zn9 (by unfold szCh at h; omega)]
   simp [hw]) (by unfold z4j; rw [if_neg (by simp)])]
  simp
 unfold zew
 rw [← hr, ← hc, e1, e2, e3]
 simp
/-! ### What is parsed back is alike -/
theorem qe2 {a b a' b' : z04} (h : QE a a') (h' : QE b b') : QEs [a, b] [a', b'] := by simp only [QEs]; exact ⟨_, _, rfl, h, _, _, rfl, h', rfl⟩
theorem zur {a b : z03} {l r : List z03} (h : QS a b) (h' : QL l r) : QL (a :: l) (b :: r) := by simp only [QL]; exact ⟨_, _, rfl, h, h'⟩
theorem zus {t v : ByteArray} {a b : List z03} {l r : List z0m} (h : QL a b) (h' : QA l r) : QA (.mk t v a :: l) (.mk t v b :: r) := by simp only [QA]; exact ⟨_, _, rfl, ⟨rfl, rfl, h⟩, h'⟩
theorem zij {e : z04} (h : (zed e).bad = false) : e.Kids = [] ∧ (e.Kind = 1 ∨ e.Kind = 2) := by
 unfold zed at h
 simp only [Wr.bad_app, Bool.or_eq_false_iff, Wri.wM, Bool.not_eq_false'] at h
 refine ⟨?_, ?_⟩
 ·have : e.Kids.length = 0 := by simpa using h.1
  exact List.eq_nil_of_length_eq_zero this
 ·by_cases h1 : e.Kind = 1
  ·exact .inl h1
  ·rw [if_neg (by simpa using h1)] at h
   simp only [Wr.bad_app, Bool.or_eq_false_iff, Bool.not_eq_false', beq_iff_eq] at h
   exact .inr h.2.1
theorem z009 {m : Bool} {f : Int → Wr} {p : Int} (h : (inP m f p).bad = false) : ∃ q, (f q).bad = false := by
 cases m with
 | true => simp only [inP, if_true, Wr.bad_app, Bool.or_eq_false_iff] at h; exact ⟨_, h.2.2.1⟩
 | false => exact ⟨p, h⟩
theorem zoy : ∀ (e : z04) (p : Int), (sE e p).bad = false → QE (cE (bkE e)) e ∧ QE e (cE (bkE e))
 | ⟨k, n, s, []⟩, p, h => by
  simp only [sE] at h
  obtain ⟨_, h1 | h1⟩ := zij h
  ·have h1 : k = 1 := h1
   subst h1
   simp [bkE, cE, cEs, QE, QEs]
  ·have h1 : k = 2 := h1
   subst h1
   simp [bkE, cE, cEs, QE, QEs]
 | ⟨k, n, s, [x]⟩, p, h => by
  simp only [sE] at h
  split at h
  ·rename_i hk
   have hk : k = 3 := by simpa using hk
   subst hk
   simp only [Wr.bad_app, Bool.or_eq_false_iff] at h
   obtain ⟨q, hq⟩ := z009 h.2.2
   have := zoy x q hq
   simp [bkE, cE, cEs, QE, QEs, this]
  ·cases (zij h).1
 | ⟨k, n, s, [l, r]⟩, p, h => by
  simp only [sE] at h
  split at h
  ·rename_i hk
   simp only [Wr.bad_app, Bool.or_eq_false_iff] at h
   obtain ⟨q, hq⟩ := z009 h.1
   obtain ⟨q', hq'⟩ := z009 h.2.2
   have h1 := zoy l q hq
   have h2 := zoy r q' hq'
   have h3 : k ≠ 1 ∧ k ≠ 2 := by rcases zrr hk with rfl | rfl | rfl | rfl | rfl <;> decide
   simp only [bkE, cE, cEs]
   exact ⟨by rw [QE]; exact ⟨rfl, fun h => absurd h h3.1, fun h => absurd h h3.2, qe2 h1.1 h2.1⟩, by rw [QE]; exact ⟨rfl, fun h => absurd h h3.1, fun h => absurd h h3.2, qe2 h1.2 h2.2⟩⟩
  ·cases (zij h).1
 | ⟨k, n, s, a :: b :: c :: l⟩, p, h => by
  simp only [sE] at h
  cases (zij h).1
theorem z00a {c : z31} {p : Int} (h : (sC c p).bad = false) : QC (cC (bkC c)) c ∧ QC c (cC (bkC c)) := by
 unfold sC at h
 simp only [Wr.bad_app, Bool.or_eq_false_iff] at h
 have h1 := zoy _ _ h.2.1
 have h2 := zoy _ _ h.2.2.2.1
 exact ⟨⟨rfl, h1.1, h2.1⟩, ⟨rfl, h1.2, h2.2⟩⟩
theorem zww {f : Int → Wr} {b : Int} (h : (inB f b).bad = false) : ∃ q, (f q).bad = false := by
 unfold inB at h
 simp only [Wr.bad_app, Bool.or_eq_false_iff] at h
 exact ⟨_, h.2.2.1⟩
mutual
theorem z04s : ∀ (s : z03) (b p : Int), (sS s b p).bad = false → QS (cS (bkS s)) s ∧ QS s (cS (bkS s))
 | .mk k n tg e c bo el ar, b, p, h => by
  have hb := fun q h => zut bo q p h
  have hl := fun q h => zut el q p h
  have ha := z02o ar b p
  simp only [sS] at h
  by_cases hk : k = 1
  ·subst hk
   simp only [beq_self_eq_true, if_true, Wr.bad_app, Bool.or_eq_false_iff] at h
   have := zoy _ _ h.2.2.1
   simp only [bkS, beq_self_eq_true, if_true, cS]
   exact ⟨by simp only [QS]; exact ⟨rfl, fun _ => ⟨rfl, this.1⟩, fun h => absurd h (by decide), fun h => absurd h (by decide), fun h => absurd h (by decide), fun h => absurd h (by decide), fun h => absurd h (by decide), fun h => absurd h (by decide)⟩,
    by simp only [QS]; exact ⟨rfl, fun _ => ⟨rfl, this.2⟩, fun h => absurd h (by decide), fun h => absurd h (by decide), fun h => absurd h (by decide), fun h => absurd h (by decide), fun h => absurd h (by decide), fun h => absurd h (by decide)⟩⟩
  rw [if_neg (by simpa using hk)] at h
  by_cases hk : k = 2
  ·subst hk
   simp only [beq_self_eq_true, if_true, Wr.bad_app, Bool.or_eq_false_iff] at h
   have hc := z00a h.2.1
   obtain ⟨q, hq⟩ := zww h.2.2.1
   have h1 := hb q hq
   have h2 : QL (cL (bkL el)) el ∧ QL el (cL (bkL el)) := by
    cases el with
    | nil => simp [bkL, cL, QL]
    | cons s0 el =>
     have h3 := h.2.2.2
     simp only [List.isEmpty_cons, Bool.false_eq_true, if_false, Wr.bad_app, Bool.or_eq_false_iff] at h3
     obtain ⟨q, hq⟩ := zww h3.2
     exact hl q hq
   simp only [bkS, Int.reduceBEq, Bool.false_eq_true, if_false, if_true, cS]
   exact ⟨by simp only [QS]; exact ⟨rfl, fun h => absurd h (by decide), fun _ => ⟨hc.1, h1.1, h2.1⟩, fun h => absurd h (by decide), fun h => absurd h (by decide), fun h => absurd h (by decide), fun h => absurd h (by decide), fun h => absurd h (by decide)⟩,
    by simp only [QS]; exact ⟨rfl, fun h => absurd h (by decide), fun _ => ⟨hc.2, h1.2, h2.2⟩, fun h => absurd h (by decide), fun h => absurd h (by decide), fun h => absurd h (by decide), fun h => absurd h (by decide), fun h => absurd h (by decide)⟩⟩
  rw [if_neg (by simpa using hk)] at h
  by_cases hk : k = 3
  ·subst hk
   simp only [beq_self_eq_true, if_true, Wr.bad_app, Bool.or_eq_false_iff] at h
   have hc := z00a h.2.1
   obtain ⟨q, hq⟩ := zww h.2.2
   have h1 := hb q hq
   simp only [bkS, Int.reduceBEq, Bool.false_eq_true, if_false, if_true, cS]
   exact ⟨by simp only [QS]; exact ⟨rfl, fun h => absurd h (by decide), fun h => absurd h (by decide), fun _ => ⟨hc.1, h1.1⟩, fun h => absurd h (by decide), fun h => absurd h (by decide), fun h => absurd h (by decide), fun h => absurd h (by decide)⟩,
    by simp only [QS]; exact ⟨rfl, fun h => absurd h (by decide), fun h => absurd h (by decide), fun _ => ⟨hc.2, h1.2⟩, fun h => absurd h (by decide), fun h => absurd h (by decide), fun h => absurd h (by decide), fun h => absurd h (by decide)⟩⟩
  rw [if_neg (by simpa using hk)] at h
  by_cases hk : k = 4
  ·subst hk
   simp only [beq_self_eq_true, if_true, Wr.bad_app, Bool.or_eq_false_iff] at h
   have := zoy _ _ h.2.2.2.2.2.1
   simp only [bkS, Int.reduceBEq, Bool.false_eq_true, if_false, if_true, cS]
   exact ⟨by simp only [QS]; exact ⟨rfl, fun h => absurd h (by decide), fun h => absurd h (by decide), fun h => absurd h (by decide), fun _ => ⟨rfl, rfl, this.1⟩, fun h => absurd h (by decide), fun h => absurd h (by decide), fun h => absurd h (by decide)⟩,
    by simp only [QS]; exact ⟨rfl, fun h => absurd h (by decide), fun h => absurd h (by decide), fun h => absurd h (by decide), fun _ => ⟨rfl, rfl, this.2⟩, fun h => absurd h (by decide), fun h => absurd h (by decide), fun h => absurd h (by decide)⟩⟩
  rw [if_neg (by simpa using hk)] at h
  by_cases hk : k = 5
  ·subst hk
   simp only [beq_self_eq_true, if_true, Wr.bad_app, Bool.or_eq_false_iff] at h
   have := ha h.2.2.2.2.1
   simp only [bkS, Int.reduceBEq, Bool.false_eq_true, if_false, if_true, cS]
   exact ⟨by simp only [QS]; exact ⟨rfl, fun h => absurd h (by decide), fun h => absurd h (by decide), fun h => absurd h (by decide), fun h => absurd h (by decide), fun _ => ⟨rfl, this.1⟩, fun h => absurd h (by decide), fun h => absurd h (by decide)⟩,
    by simp only [QS]; exact ⟨rfl, fun h => absurd h (by decide), fun h => absurd h (by decide), fun h => absurd h (by decide), fun h => absurd h (by decide), fun _ => ⟨rfl, this.2⟩, fun h => absurd h (by decide), fun h => absurd h (by decide)⟩⟩
  rw [if_neg (by simpa using hk)] at h
  by_cases hk : k = 6
  ·subst hk
   simp only [beq_self_eq_true, if_true, Wr.bad_app, Bool.or_eq_false_iff] at h
   have hc := z00a h.2.1
   simp only [bkS, Int.reduceBEq, Bool.false_eq_true, if_false, if_true, cS]
   exact ⟨by simp only [QS]; exact ⟨rfl, fun h => absurd h (by decide), fun h => absurd h (by decide), fun h => absurd h (by decide), fun h => absurd h (by decide), fun h => absurd h (by decide), fun _ => hc.1, fun h => absurd h (by decide)⟩,
    by simp only [QS]; exact ⟨rfl, fun h => absurd h (by decide), fun h => absurd h (by decide), fun h => absurd h (by decide), fun h => absurd h (by decide), fun h => absurd h (by decide), fun _ => hc.2, fun h => absurd h (by decide)⟩⟩
  rw [if_neg (by simpa using hk)] at h
  by_cases hk : k = 7
  ·subst hk
   simp only [bkS, Int.reduceBEq, Bool.false_eq_true, if_false, if_true, cS]
   exact ⟨by simp only [QS]; exact ⟨rfl, fun h => absurd h (by decide), fun h => absurd h (by decide), fun h => absurd h (by decide), fun h => absurd h (by decide), fun h => absurd h (by decide), fun h => absurd h (by decide), fun _ => rfl⟩,
    by simp only [QS]; exact ⟨rfl, fun h => absurd h (by decide), fun h => absurd h (by decide), fun h => absurd h (by decide), fun h => absurd h (by decide), fun h => absurd h (by decide), fun h => absurd h (by decide), fun _ => rfl⟩⟩
  rw [if_neg (by simpa using hk)] at h
  cases h
theorem zut : ∀ (l : List z03) (b p : Int), (sL l b p).bad = false → QL (cL (bkL l)) l ∧ QL l (cL (bkL l))
 | [], b, p, h => by simp [bkL, cL, QL]
 | s :: l, b, p, h => by
  simp only [sL, Wr.bad_app, Bool.or_eq_false_iff] at h
  have h1 := z04s s b p h.1
  have h2 := zut l b p h.2
  simp only [bkL, cL]
  exact ⟨zur h1.1 h2.1, zur h1.2 h2.2⟩
theorem z02o : ∀ (l : List z0m) (b p : Int), (sA l b p).bad = false → QA (cA (bkA l)) l ∧ QA l (cA (bkA l))
 | [], b, p, h => by simp [bkA, cA, QA]
 | .mk t v bo :: l, b, p, h => by
  simp only [sA, Wr.bad_app, Bool.or_eq_false_iff] at h
  obtain ⟨q, hq⟩ := zww h.2.2.2.2.1
  have h1 := zut bo q p hq
  have h2 := z02o l b p h.2.2.2.2.2
  simp only [bkA, cA]
  exact ⟨zus h1.1 h2.1, zus h1.2 h2.2⟩
end
theorem zqa {β : Type} {g : Nat → β → Wr} : ∀ {l : List β} {i : Nat}, (z7b g i l).bad = false → ∀ x ∈ l, ∃ j, (g j x).bad = false
 | y :: l, i, h, x, hx => by
  simp only [z7b, Wr.bad_app, Bool.or_eq_false_iff] at h
  rcases List.mem_cons.1 hx with rfl | hx
  ·exact ⟨i, h.1⟩
  ·exact zqa h.2 x hx
theorem z00b {s : z16} (h : (Wri.sSys s).bad = false) : (cSys (zjg s)).Chans = s.Chans ∧ (cSys (zjg s)).Rules = s.Rules ∧ Rel QP (cSys (zjg s)).Procs s.Procs ∧ Rel QP s.Procs (cSys (zjg s)).Procs := by
 unfold Wri.sSys at h
 simp only [Wr.bad_app, Bool.or_eq_false_iff] at h
 have hp : ∀ x ∈ s.Procs, QP (cPr (bkPr x)) x ∧ QP x (cPr (bkPr x)) := fun x hx => by
  obtain ⟨_, h1⟩ := zqa h.2.2 x hx
  unfold sP at h1
  simp only [Wr.bad_app, Bool.or_eq_false_iff] at h1
  have := zut _ _ _ h1.2.2.2.2.1
  exact ⟨⟨rfl, rfl, this.1⟩, ⟨rfl, rfl, this.2⟩⟩
 refine ⟨?_, ?_, ?_, ?_⟩
 ·simp only [cSys, zjg, List.map_map]
  exact List.map_id'' (fun x => rfl) _
 ·simp only [cSys, zjg, List.map_map]
  refine List.map_id'' (fun x => ?_) _
  obtain ⟨c, m⟩ := x
  simp only [Function.comp, bkRu, cRu, List.map_map]
  congr 1
  exact List.map_id'' (fun x => rfl) _
 ·have := Rel.map (Q := QP) (fun x => cPr (bkPr x)) (fun x => x) s.Procs (fun x hx => (hp x hx).1)
  rw [List.map_id'] at this
  simpa [cSys, zjg, List.map_map, Function.comp_def] using this
 ·have := Rel.map (Q := QP) (fun x => x) (fun x => cPr (bkPr x)) s.Procs (fun x hx => (hp x hx).2)
  rw [List.map_id'] at this
  simpa [cSys, zjg, List.map_map, Function.comp_def] using this
end Go.Proofs.YtokjbpmjdcbogaaGreatDoor.Abs.Par
/- The law ParseBlanks in plain form. -/
namespace Go.Proofs.YtokjbpmjdcbogaaGreatDoor.Abs.Par
open Go Go.RowKit Wri
set_option linter.unusedVariables false
set_option linter.unusedSimpArgs false
theorem z04t {x : Wr} (h : (endW x).2 = 0) : x.bad = false ∧ x.dp = false ∧ x.ws.length ≤ 2000 ∧ endW x = (x.ws, 0) := by
 unfold endW at *
 split at h
 ·cases h
 ·split at h
  ·cases h
  ·split at h
   ·cases h
   ·rename_i h1 h2 h3
    exact ⟨by simpa using h1, by simpa using h2, by omega, by rw [if_neg h1, if_neg h2, if_neg h3]⟩
theorem zqb {a b : ByteArray} (h : a.size + b.size ≤ 1000000) : scat a b = some (a ++ b) := by unfold scat; rw [if_pos (by omega)]
def Bl (x : ByteArray × Bs) : Prop := ∃ b r, x.2 = b :: r ∧ (b :: r).all isB = true
theorem z02p : ∀ {l : List (ByteArray × Bs)}, (∀ x ∈ l, oneS x.1 = true ∧ Bl x) → Ch l
 | [], _ => trivial
 | x :: l, h => by
  obtain ⟨h1, b, r, h2, h3⟩ := h x (by simp)
  refine ⟨h1, by rw [h2]; exact h3, ?_, z02p fun y hy => h y (by simp [hy])⟩
  rw [h2, List.cons_append]
  simp only [List.all_cons, Bool.and_eq_true] at h3
  exact zi3 h3.1
end Go.Proofs.YtokjbpmjdcbogaaGreatDoor.Abs.Par
/- The law ParseTexts in plain form. -/
namespace Go.Proofs.YtokjbpmjdcbogaaGreatDoor.Abs.Par
open Go Go.RowKit Wri
set_option linter.unusedVariables false
set_option linter.unusedSimpArgs false
/-! ### The text with blanks -/
theorem zna : ∀ ws : List ByteArray, z7v ws = txt (ws.map fun w => (w, [32]))
 | [] => rfl
 | w :: r => by
  have := zna r
  unfold z7v at this ⊢
  rw [List.flatMap_cons, this, List.map_cons, txt]
  simp
theorem z00c (ws : List ByteArray) (f : ByteArray → Bs) : (ws.map fun w => (w, f w)).map Prod.fst = ws := by
 rw [List.map_map]; exact List.map_id'' (fun _ => rfl) _
theorem zqc : ∀ {ws : List ByteArray}, (∀ w ∈ ws, w.size ≤ 24) → (z7v ws).length ≤ 25 * ws.length
 | [], h => by simp [z7v]
 | x :: r, h => by
  have h1 := zqc (ws := r) fun w hw => h w (List.mem_cons_of_mem _ hw)
  have h2 := h x List.mem_cons_self
  have e : (z7v (x :: r)).length = x.size + 1 + (z7v r).length := by
   simp only [z7v, List.flatMap_cons, List.length_append, List.length_cons, List.length_nil, z5r]
  rw [e, List.length_cons]; omega
/-! ### The text without blanks where none must be -/
def zgx (w : ByteArray) : Bool := w.data.toList.head?.map isA == some true
def cond (w v : ByteArray) : Bool := (zgx w && zgx v) || (v.toList == (ByteArray.mk #[61]).toList || v.toList == (ByteArray.mk #[61, 61]).toList)
def tw : List ByteArray → List (ByteArray × Bs)
 | [] => []
 | [w] => [(w, [])]
 | w :: v :: r => (w, if cond w v then [10] else []) :: tw (v :: r)
def tz : ByteArray → List ByteArray → Bs
 | _, [] => []
 | p, v :: r => (if cond p v then [10] else []) ++ (v.data.toList ++ tz v r)
theorem zuu : ∀ (w : ByteArray) (r : List ByteArray), txt (tw (w :: r)) = w.data.toList ++ tz w r
 | w, [] => by simp [tw, txt, tz]
 | w, v :: r => by simp only [tw, txt, tz, zuu v r]
theorem zy8 : ∀ l : List ByteArray, (tw l).map Prod.fst = l
 | [] => rfl
 | [w] => rfl
 | w :: v :: r => by simp only [tw, List.map_cons, zy8 (v :: r)]
theorem z02q {v : ByteArray} {r : Bs} (h : oneS v = true) (hv : v.data.toList = 61 :: r) : r = [] ∨ r = [61] := by
 obtain ⟨x, ⟨h1, h2⟩, _⟩ := zot h
 rw [hv] at h1 h2
 rw [zbi, if_neg (by decide), if_neg (by decide)] at h1
 split at h1
 ·cases h1
 ·injection h1 with h1; subst h1
  have h2 : zdb (61 :: r) = (61 :: r).length := h2
  cases r with
  | nil => exact .inl rfl
  | cons c q =>
   have h3 : zdb (61 :: c :: q) ≤ 2 := by unfold zdb; split <;> (try split) <;> omega
   cases q with
   | nil =>
    refine .inr ?_
    simp only [zdb, List.length_cons, List.length_nil] at h2
    split at h2
    ·rename_i h4; simpa using h4.1
    ·split at h2 <;> omega
   | cons d q => simp only [List.length_cons] at h2; omega
theorem z02r : ∀ l : List ByteArray, (∀ w ∈ l, oneS w = true) → Ch (tw l)
 | [], _ => trivial
 | [w], h => ⟨h w (by simp), rfl, by simp [tw, txt, Leaves], trivial⟩
 | w :: v :: r, h => by
  refine ⟨h w (by simp), ?_, ?_, z02r (v :: r) fun x hx => h x (by simp at hx ⊢; exact .inr hx)⟩
  ·dsimp only; split <;> decide
  ·dsimp only
   split
   ·exact zi3 (by decide)
   ·rename_i hc
    rw [zuu, List.nil_append]
    obtain ⟨x, ⟨h1, h2⟩, hb⟩ := zot (h v (by simp))
    have hv1 : oneS v = true := h v (by simp)
    unfold cond at hc
    simp only [Bool.or_eq_true, Bool.and_eq_true, not_or, not_and] at hc
    cases hv : v.data.toList with
    | nil => rw [hv] at h1; cases h1
    | cons b q =>
     refine ⟨fun hw c hc' => ?_, fun hw c hc' => ?_⟩
     ·have hc2 : b = c := by simpa using hc'
      subst hc2
      have := hc.1 (by unfold zgx; rw [hw]; rfl)
      unfold zgx at this
      rw [hv] at this
      simpa using this
     ·have hc2 : b = c := by simpa using hc'
      subst hc2
      intro hb61
      subst hb61
      have ev : ∀ u : ByteArray, v.data.toList = u.data.toList → v = u := fun u hu => zgy hu
      rcases z02q hv1 hv with hq | hq
      ·have := ev (ByteArray.mk #[61]) (by rw [hv, hq])
       exact hc.2.1 (by rw [this]; exact beq_self_eq_true _)
      ·have := ev (ByteArray.mk #[61, 61]) (by rw [hv, hq])
       exact hc.2.2 (by rw [this]; exact beq_self_eq_true _)
theorem zuv (w : ByteArray) : zbs w = some (zgx w) := by
 unfold zbs zgx
 cases hw : w.data.toList with
 | nil =>
  have : (w.toList == (ByteArray.mk #[]).toList) = true := by rw [show w = ByteArray.mk #[] from zgy hw]; exact beq_self_eq_true _
  simp only [this, Bool.not_true, Bool.false_eq_true, if_false, Option.bind_eq_bind, Option.bind_some]
  rfl
 | cons b r =>
  have hne : (w.toList == (ByteArray.mk #[]).toList) = false := by
   rw [beq_eq_false_iff_ne]
   intro h
   rw [Go.ByteArray.toList_eq, Go.ByteArray.toList_eq, hw] at h
   cases h
  have hb : bidx w 0 = some (b.toNat : Int) := by
   have h0 : 0 < w.data.toList.length := by rw [hw]; simp
   have := zf0 w 0 h0
   have e : w.data.toList[0] = b := by simp [hw]
   rw [e] at this
   exact this
  simp only [hne, Bool.not_false, if_true, hb, Option.bind_eq_bind, Option.bind_some, List.head?_cons, Option.map_some]
  have hA : (some (isA b) == some true) = isA b := by cases isA b <;> rfl
  rw [hA]
  unfold isA isL isD
  by_cases h1 : 97 ≤ b.toNat
  ·by_cases h2 : b.toNat ≤ 122
   ·have e1 : ((b.toNat : Int) ≥ 97) := by omega
    have e2 : ((b.toNat : Int) ≤ 122) := by omega
    simp [e1, e2, h1, h2]
   ·have e1 : ((b.toNat : Int) ≥ 97) := by omega
    have e2 : ¬ ((b.toNat : Int) ≤ 122) := by omega
    have e3 : ((b.toNat : Int) ≥ 48) := by omega
    have e4 : ¬ ((b.toNat : Int) ≤ 57) := by omega
    have e5 : ¬ (b.toNat ≤ 57) := by omega
    simp [e1, e2, e3, e4, h1, h2, e5]
  ·have e1 : ¬ ((b.toNat : Int) ≥ 97) := by omega
   by_cases h3 : 48 ≤ b.toNat
   ·have e3 : ((b.toNat : Int) ≥ 48) := by omega
    by_cases h4 : b.toNat ≤ 57
    ·have e4 : ((b.toNat : Int) ≤ 57) := by omega
     simp [e1, e3, e4, h1, h3, h4]
    ·have e4 : ¬ ((b.toNat : Int) ≤ 57) := by omega
     simp [e1, e3, e4, h1, h3, h4]
   ·have e3 : ¬ ((b.toNat : Int) ≥ 48) := by omega
    simp [e1, e3, h1, h3]
theorem znb (w v : ByteArray) {k : Int} {l : List ByteArray} (hv : idx l k = some v) : ((if zgx w then (idx l k >>= fun v10 => zbs v10 >>= fun v11 => if v11 then (some true) else (idx l k >>= fun v12 => if (v12.toList == (ByteArray.mk #[61]).toList) then (some true) else (idx l k >>= fun v13 => some (v13.toList == (ByteArray.mk #[61, 61]).toList))))
  else (idx l k >>= fun v14 => if (v14.toList == (ByteArray.mk #[61]).toList) then (some true) else (idx l k >>= fun v15 => some (v15.toList == (ByteArray.mk #[61, 61]).toList)))) : Option Bool) = some (cond w v) := by
 unfold cond
 simp only [hv, Option.bind_eq_bind, Option.bind_some, zuv]
 cases zgx w <;> cases zgx v <;> cases (v.toList == (ByteArray.mk #[61]).toList) <;> rfl
theorem zwx {ws : List ByteArray} {e : Int} (hw : ∀ x ∈ ws, x.size ≤ 24) (hl : ws.length ≤ 2000) : ∀ (m : List ByteArray) (k : Nat) (p s : ByteArray), 1 ≤ k → ws.drop k = m → k ≤ ws.length → ws[k - 1]? = some p → s.size ≤ 25 * k →
  ∃ t, iter (z48 (ws, e)) (s, (k : Int)) = some (.inr t) ∧ t.size ≤ 50000 ∧ t.data.toList = s.data.toList ++ tz p m := by
 intro m
 induction m with
 | nil =>
  intro k p s h1 hd hk hp hs
  have : k = ws.length := by have := List.drop_eq_nil_iff.1 hd; omega
  subst this
  exact ⟨s, z6r (by unfold z48; rw [if_neg (by simp)]), by omega, by simp [tz]⟩
 | cons v m ih =>
  intro k p s h1 hd hk hp hs
  have hlt : k < ws.length := by
   refine Nat.lt_of_not_le fun h => ?_
   rw [List.drop_of_length_le h] at hd; cases hd
  rw [List.drop_eq_getElem_cons hlt] at hd
  injection hd with hd1 hd2
  have hi : idx ws (k : Int) = some v := by rw [zfg hlt, hd1]
  have hz : v.size ≤ 24 := by rw [← hd1]; exact hw _ (List.getElem_mem hlt)
  have hlt1 : k - 1 < ws.length := by omega
  have hi1 : idx ws (IntKind.i64.wrap ((k : Int) - 1)) = some p := by
   have e1 : IntKind.i64.wrap ((k : Int) - 1) = ((k - 1 : Nat) : Int) := by rw [w64 (by omega) (by omega)]; omega
   rw [e1, zfg hlt1]
   rw [List.getElem?_eq_getElem hlt1] at hp
   exact hp
  have hgt : decide ((k : Int) > 0) = true := by simp; omega
  have step : z48 (ws, e) (s, (k : Int)) = some (.inl (s ++ ⟨(if cond p v then [10] else [] : Bs).toArray⟩ ++ v, ((k + 1 : Nat) : Int))) := by
   unfold z48
   rw [if_pos (by simpa using hlt)]
   simp only [hgt, if_true, hi1, Option.bind_eq_bind, Option.bind_some, zuv p]
   have hc := znb p v (k := (k : Int)) hi
   simp only [Option.bind_eq_bind] at hc
   rw [hc]
   simp only [Option.bind_some, hi, zwy (i := k) (by omega)]
   cases cond p v with
   | true =>
    have hb : (ByteArray.mk #[10]).size = 1 := rfl
    have c1 : scat s (ByteArray.mk #[10]) = some (s ++ ByteArray.mk #[10]) := zqb (by omega)
    have c2 : scat (s ++ ByteArray.mk #[10]) v = some (s ++ ByteArray.mk #[10] ++ v) := zqb (by simp only [ByteArray.size_append, hb]; omega)
    simp only [if_true, c1, Option.bind_some, c2]
   | false =>
    have c1 : scat s v = some (s ++ v) := zqb (by omega)
    have e0 : s ++ (⟨(([] : Bs)).toArray⟩ : ByteArray) = s := zgy (by simp)
    simp only [Bool.false_eq_true, if_false, c1, Option.bind_some, e0]
  have hu : (⟨(if cond p v then [10] else [] : Bs).toArray⟩ : ByteArray).size ≤ 1 := by cases cond p v <;> decide
  obtain ⟨t, i1, i2, i3⟩ := ih (k + 1) v (s ++ ⟨(if cond p v then [10] else [] : Bs).toArray⟩ ++ v) (by omega) hd2 hlt (by simp only [Nat.add_sub_cancel]; rw [List.getElem?_eq_getElem hlt, hd1]) (by simp only [ByteArray.size_append]; omega)
  refine ⟨t, by rw [zeh step]; exact i1, i2, ?_⟩
  rw [i3, tz]
  simp
theorem zuw {ws : List ByteArray} {e : Int} (hw : ∀ x ∈ ws, x.size ≤ 24) (hl : ws.length ≤ 2000) : ∃ t, iter (z48 (ws, e)) (ByteArray.mk #[], 0) = some (.inr t) ∧ t.size ≤ 50000 ∧ t.data.toList = txt (tw ws) := by
 cases ws with
 | nil => exact ⟨ByteArray.mk #[], z6r (by unfold z48; rw [if_neg (by simp)]), by decide, rfl⟩
 | cons w r =>
  have hz : w.size ≤ 24 := hw w (by simp)
  have e0 : (ByteArray.mk #[]) ++ w = w := zgy (by simp)
  have hi : idx (w :: r) 0 = some w := rfl
  have step : z48 (w :: r, e) (ByteArray.mk #[], 0) = some (.inl (w, ((1 : Nat) : Int))) := by
   unfold z48
   rw [if_pos (by simp)]
   have c1 : scat (ByteArray.mk #[]) w = some w := by rw [zqb (by have : (ByteArray.mk #[]).size = 0 := rfl; omega), e0]
   have hg : decide ((0 : Int) > 0) = false := rfl
   simp only [hg, Bool.false_eq_true, if_false, hi, Option.bind_eq_bind, Option.bind_some, c1]
   try rfl
  obtain ⟨t, i1, i2, i3⟩ := zwx hw hl (e := e) r 1 w w (Nat.le_refl _) rfl (by simp) rfl (by omega)
  exact ⟨t, by rw [zeh step]; exact i1, i2, by rw [i3, zuu]⟩
theorem law_ParseTexts {a0 : z43} (ho : zsc (cSys a0)) (hs : zjm (cSys a0) ≤ 400000000000) : zal a0 = some true := by
 unfold zal
 rw [z02s hs]
 simp only [Option.bind_eq_bind, Option.bind_some]
 rw [z02t ho (by omega), zwz]
 simp only [Option.bind_some, Bool.not_true, Bool.false_eq_true, if_false]
 by_cases he : (endW (Wri.sSys (cSys a0))).2 = 0
 ·obtain ⟨h1, h2, h3, h4⟩ := z04t he
  have hsh := z02d (cSys a0) h1
  have how := z02g (cSys a0) h1
  obtain ⟨r1, r2, _, r4⟩ := z00b h1
  have hsame := z02n (s := cSys a0) (s' := cSys (zjg (cSys a0))) hs r1.symm r2.symm r4
  have hz := zqc hsh
  have g1 := zq5 (t := zof (Wri.sSys (cSys a0)).ws) h1 h2 h3 (z00c _ fun _ => [32]) (by show (z7v (Wri.sSys (cSys a0)).ws).toArray.toList = _; rw [zna]) (z02p fun x hx => by
   obtain ⟨w, hw, rfl⟩ := List.mem_map.1 hx
   exact ⟨how w hw, 32, [], rfl, by decide⟩)
  obtain ⟨t, hit, ht, htx⟩ := zuw (e := 0) hsh h3
  have g2 := zq5 h1 h2 h3 (zy8 _) htx (z02r _ how)
  have p1 : z6l (zof (Wri.sSys (cSys a0)).ws) = _ := zle (by show (z7v (Wri.sSys (cSys a0)).ws).toArray.size ≤ _; rw [List.size_toArray]; omega)
  rw [g1] at p1
  have p2 : z6l t = _ := zle (by omega)
  rw [g2] at p2
  have hw := zux ho (show zjm (cSys a0) ≤ 1000000000000 by omega)
  rw [h4] at hw ⊢
  have h0 : ((0 : Int) != 0) = false := rfl
  simp only [h0, Bool.false_eq_true, if_false, p1, Option.bind_some, hsame, Bool.not_true, hw, hit, Sum.elim_inr, p2, beq_self_eq_true, if_true]
 ·have he' : ((endW (Wri.sSys (cSys a0))).2 != 0) = true := by simpa using he
  simp only [he', if_true, Option.bind_some]
end Go.Proofs.YtokjbpmjdcbogaaGreatDoor.Abs.Par
/- The statements' own trees, read off a row's data, with what they weigh. -/
namespace Go.Proofs.YtokjbpmjdcbogaaGreatDoor.Abs.Wri
open Go Go.RowKit
set_option linter.unusedVariables false
set_option linter.unusedSimpArgs false
theorem zlf {n : Int} (h : InK .i64 n) : in64 n := by
 have h1 := h.lo
 have h2 := h.hi
 simp [IntKind.min, IntKind.max, IntKind.signed, IntKind.bits] at h1 h2
 exact ⟨by omega, by omega⟩
mutual
def mE : z1m → Nat
 | ⟨_, _, s, l⟩ => s.size + mEs l + 4
def mEs : List z1m → Nat
 | [] => 0
 | e :: r => mE e + mEs r
end
mutual
def rgE : z1m → Prop
 | ⟨_, n, _, l⟩ => in64 n ∧ rgEs l
def rgEs : List z1m → Prop
 | [] => True
 | e :: r => rgE e ∧ rgEs r
end
theorem zuy : ∀ l, mEs l = sumM mE l
 | [] => rfl
 | e :: r => by simp only [mEs, sumM, zuy r]
theorem zuz : ∀ {l : List z1m}, (∀ x ∈ l, rgE x) → rgEs l
 | [], _ => trivial
 | e :: r, h => ⟨h e List.mem_cons_self, zuz fun x hx => h x (List.mem_cons_of_mem _ hx)⟩
mutual
theorem zqd : ∀ (e : z1m), rgE e → mE e ≤ 4194304 → okE (cE e) ∧ szE (cE e) ≤ mE e
 | ⟨k, n, s, l⟩, h, hm => by
  simp only [rgE] at h
  simp only [mE] at hm ⊢
  have := zv0 l h.2 (by omega)
  simp only [cE, okE, szE]
  exact ⟨⟨h.1, by omega, this.1⟩, by omega⟩
theorem zv0 : ∀ (l : List z1m), rgEs l → mEs l ≤ 4194304 → okEs (cEs l) ∧ szEs (cEs l) ≤ mEs l
 | [], _, _ => ⟨trivial, Nat.le_refl _⟩
 | e :: r, h, hm => by
  simp only [rgEs] at h
  simp only [mEs] at hm ⊢
  have h1 := zqd e h.1 (by omega)
  have h2 := zv0 r h.2 (by omega)
  simp only [cEs, okEs, szEs]
  exact ⟨⟨h1.1, h2.1⟩, by omega⟩
end
mutual
def mS : z0t → Nat
 | .mk _ n t e c b l a => n.size + t.size + mE e + (mE c.L + mE c.R) + mL b + mL l + mA a + 8
def mL : List z0t → Nat
 | [] => 0
 | s :: r => mS s + mL r
def mA : List z4p → Nat
 | [] => 0
 | .mk t v b :: r => (t.size + v.size + mL b + 3) + mA r
end
def mAr (x : z4p) : Nat := x.Tag.size + x.Var.size + mL x.Body + 3
mutual
def rgS : z0t → Prop
 | .mk _ _ _ e c b l a => rgE e ∧ rgE c.L ∧ rgE c.R ∧ rgL b ∧ rgL l ∧ rgA a
def rgL : List z0t → Prop
 | [] => True
 | s :: r => rgS s ∧ rgL r
def rgA : List z4p → Prop
 | [] => True
 | .mk _ _ b :: r => rgL b ∧ rgA r
end
def rgAr (x : z4p) : Prop := rgL x.Body
theorem zqe : ∀ l, mL l = sumM mS l
 | [] => by simp only [mL, sumM]
 | e :: r => by simp only [mL, sumM, zqe r]
theorem zy9 : ∀ l, mA l = sumM mAr l
 | [] => by simp only [mA, sumM]
 | .mk t v b :: r => by simp only [mA, sumM, zy9 r]; rfl
theorem znc : ∀ {l : List z0t}, (∀ x ∈ l, rgS x) → rgL l
 | [], _ => by simp only [rgL]
 | e :: r, h => by simp only [rgL]; exact ⟨h e List.mem_cons_self, znc fun x hx => h x (List.mem_cons_of_mem _ hx)⟩
theorem zya : ∀ {l : List z4p}, (∀ x ∈ l, rgAr x) → rgA l
 | [], _ => by simp only [rgA]
 | .mk t v b :: r, h => by simp only [rgA]; exact ⟨h (.mk t v b) List.mem_cons_self, zya fun x hx => h x (List.mem_cons_of_mem _ hx)⟩
mutual
theorem z02u : ∀ (s : z0t), rgS s → mS s ≤ 4194304 → okS (cS s) ∧ szS (cS s) ≤ mS s
 | .mk k n t e c b l a, h, hm => by
  simp only [rgS] at h
  simp only [mS] at hm ⊢
  have h1 := zqd e h.1 (by omega)
  have h2 := zqd c.L h.2.1 (by omega)
  have h3 := zqd c.R h.2.2.1 (by omega)
  have h4 := znd b h.2.2.2.1 (by omega)
  have h5 := znd l h.2.2.2.2.1 (by omega)
  have h6 := zyb a h.2.2.2.2.2 (by omega)
  have hz : szC (cC c) = 1 + szE (cE c.L) + szE (cE c.R) := rfl
  simp only [cS, okS, szS, hz]
  exact ⟨⟨by omega, by omega, h1.1, ⟨h2.1, h3.1⟩, h4.1, h5.1, h6.1⟩, by omega⟩
theorem znd : ∀ (l : List z0t), rgL l → mL l ≤ 4194304 → okL (cL l) ∧ szL (cL l) ≤ mL l + 1
 | [], _, _ => by simp only [cL, okL, szL, mL, true_and]; omega
 | s :: r, h, hm => by
  simp only [rgL] at h
  simp only [mL] at hm ⊢
  have h1 := z02u s h.1 (by omega)
  have h2 := znd r h.2 (by omega)
  simp only [cL, okL, szL]
  exact ⟨⟨h1.1, h2.1⟩, by omega⟩
theorem zyb : ∀ (l : List z4p), rgA l → mA l ≤ 4194304 → okA (cA l) ∧ szA (cA l) ≤ mA l + 1
 | [], _, _ => by simp only [cA, okA, szA, mA, true_and]; omega
 | .mk t v b :: r, h, hm => by
  simp only [rgA] at h
  simp only [mA] at hm ⊢
  have h1 := znd b h.1 (by omega)
  have h2 := zyb r h.2 (by omega)
  simp only [cA, okA, szA]
  exact ⟨⟨by omega, by omega, h1.1, h2.1⟩, by omega⟩
end
/-! ### Off the data -/
section
variable {H : Type} {enc : TypeId × Value → H} {w : World}
theorem zdc {T E : TypeId} {τ : Type} {e : τ → List PV} {ok : τ → Prop} {m : τ → Nat} {sz : Nat} {P : Program} (hu : P.underlying T = some (.slice E)) (hsz : P.cellsOf E = sz) (hpos : 0 < sz) (hlen : ∀ x, (e x).length = sz) {fuel : Nat} (hE : ∀ f, f < fuel → DecB P enc w f E e ok m) :
  DecB P enc w fuel T (fun l : List τ => [.sl (l.map e)]) (fun l => (∀ x ∈ l, ok x) ∧ l.length ≤ maxLen) (fun l => sumM m l + 1) := by
 cases fuel with
 | zero => exact zjp
 | succ f => exact zr9 hu hsz hpos hlen (hE f (Nat.lt_succ_self f))
theorem zv1 : ∀ fuel, DecB Tryz.prog enc w fuel 43 z4n rgE mE := by
 intro fuel
 induction fuel using Nat.strongRecOn with
 | _ fuel ih =>
  cases fuel with
  | zero => exact zjp
  | succ f =>
   refine z7d (N := 4) (fun x : Int × Int × ByteArray × List z1m × Unit => z1m.mk x.1 x.2.1 x.2.2.1 x.2.2.2.1) Tryz.underlying43 (by kernel_rfl)
    (z32 (sz := 1) rfl (by kernel_rfl) (zc0 Tryz.underlying3 f) (z32 (sz := 1) rfl (by kernel_rfl) (zc0 Tryz.underlying3 f) (z32 (sz := 1) rfl (by kernel_rfl) (z94 Tryz.underlying9 f)
     (z32 (sz := 1) rfl (by kernel_rfl) (zdc Tryz.underlying41 (by kernel_rfl) (by decide) zjr fun g hg => ih g (by omega)) (zb7 (by decide))))))
    (fun x => by rw [za0]; rfl) (fun x h => ⟨zlf h.2.1, zuz h.2.2.2.1.1⟩) (fun x => ?_)
   show x.2.2.1.size + mEs x.2.2.2.1 + 4 ≤ 1 + (1 + (x.2.2.1.size + 1 + (sumM mE x.2.2.2.1 + 1 + 0))) + 1
   rw [zuy]; omega
theorem z02v (fuel : Nat) : DecB Tryz.prog enc w fuel 46 zet (fun c => rgE c.L ∧ rgE c.R) (fun c => mE c.L + mE c.R + 2) := by
 cases fuel with
 | zero => exact zjp
 | succ f =>
  refine z7d (N := 9) (fun x : Int × z1m × z1m × Unit => z7t.mk x.1 x.2.1 x.2.2.1) Tryz.underlying46 (by kernel_rfl)
   (z32 (sz := 1) rfl (by kernel_rfl) (zc0 Tryz.underlying3 f) (z32 (sz := 4) rfl (by kernel_rfl) (zv1 f) (z32 (sz := 4) rfl (by kernel_rfl) (zv1 f) (zb7 (by decide)))))
   (fun x => by simp only [za0]; rfl) (fun x h => ⟨h.2.1, h.2.2.1⟩) (fun x => ?_)
  show mE x.2.1 + mE x.2.2.1 + 2 ≤ 1 + (mE x.2.1 + (mE x.2.2.1 + 0)) + 1
  omega
theorem z02w : ∀ fuel, DecB Tryz.prog enc w fuel 50 z41 rgS mS := by
 intro fuel
 induction fuel using Nat.strongRecOn with
 | _ fuel ih =>
  cases fuel with
  | zero => exact zjp
  | succ f =>
   have hL : ∀ g, g ≤ f → DecB Tryz.prog enc w g 47 (fun l : List z0t => [.sl (l.map z41)]) (fun l => (∀ x ∈ l, rgS x) ∧ l.length ≤ maxLen) (fun l => sumM mS l + 1) := fun g hg =>
    zdc Tryz.underlying47 (by kernel_rfl) (by decide) zf9 fun g' hg' => ih g' (by omega)
   have hA : ∀ g, g ≤ f → DecB Tryz.prog enc w g 151 za1 rgAr mAr := fun g hg => by
    cases g with
    | zero => exact zjp
    | succ g =>
     refine z7d (N := 3) (fun x : ByteArray × ByteArray × List z0t × Unit => z4p.mk x.1 x.2.1 x.2.2.1) Tryz.underlying151 (by kernel_rfl)
      (z32 (sz := 1) rfl (by kernel_rfl) (z94 Tryz.underlying9 g) (z32 (sz := 1) rfl (by kernel_rfl) (z94 Tryz.underlying9 g) (z32 (sz := 1) rfl (by kernel_rfl) (hL g (by omega)) (zb7 (by decide)))))
      (fun x => by rw [zao]; rfl) (fun x h => znc h.2.2.1.1) (fun x => ?_)
     show x.1.size + x.2.1.size + mL x.2.2.1 + 3 ≤ x.1.size + 1 + (x.2.1.size + 1 + (sumM mS x.2.2.1 + 1 + 0)) + 1
     rw [zqe]; omega
   refine z7d (N := 19) (fun x : Int × ByteArray × ByteArray × z1m × z7t × List z0t × List z0t × List z4p × Unit => z0t.mk x.1 x.2.1 x.2.2.1 x.2.2.2.1 x.2.2.2.2.1 x.2.2.2.2.2.1 x.2.2.2.2.2.2.1 x.2.2.2.2.2.2.2.1) Tryz.underlying50 (by kernel_rfl)
    (z32 (sz := 1) rfl (by kernel_rfl) (zc0 Tryz.underlying3 f) (z32 (sz := 1) rfl (by kernel_rfl) (z94 Tryz.underlying9 f) (z32 (sz := 1) rfl (by kernel_rfl) (z94 Tryz.underlying9 f)
     (z32 (sz := 4) rfl (by kernel_rfl) (zv1 f) (z32 (sz := 9) rfl (by kernel_rfl) (z02v f) (z32 (sz := 1) rfl (by kernel_rfl) (hL f (Nat.le_refl f)) (z32 (sz := 1) rfl (by kernel_rfl) (hL f (Nat.le_refl f))
      (z32 (sz := 1) rfl (by kernel_rfl) (zdc Tryz.underlying48 (by kernel_rfl) (by decide) zl0 fun g hg => hA g (by omega)) (zb7 (by decide))))))))))
    (fun x => by rw [zd0]; simp only [za0, zet]; rfl) (fun x h => ?_) (fun x => ?_)
   ·simp only [rgS]
    exact ⟨h.2.2.2.1, h.2.2.2.2.1.1, h.2.2.2.2.1.2, znc h.2.2.2.2.2.1.1, znc h.2.2.2.2.2.2.1.1, zya h.2.2.2.2.2.2.2.1.1⟩
   ·simp only [mS, zqe, zy9]; omega
theorem z02x (fuel : Nat) : DecB Tryz.prog enc w fuel 47 (fun l : List z0t => [.sl (l.map z41)]) (fun l => (∀ x ∈ l, rgS x) ∧ l.length ≤ maxLen) (fun l => sumM mS l + 1) :=
 zdc Tryz.underlying47 (by kernel_rfl) (by decide) zf9 fun g hg => z02w g
end
end Go.Proofs.YtokjbpmjdcbogaaGreatDoor.Abs.Wri
/- The statements' own systems, read off a row's data, with what they weigh; AstExprs, AstTexts by it. -/
namespace Go.Proofs.YtokjbpmjdcbogaaGreatDoor.Abs.Wri
open Go Go.RowKit
set_option linter.unusedVariables false
set_option linter.unusedSimpArgs false
theorem zf1 {β : Type} {m : β → Nat} : ∀ {l : List β} {x : β}, x ∈ l → m x ≤ sumM m l
 | y :: r, x, h => by
  rcases List.mem_cons.1 h with rfl | h
  ·simp only [sumM]; omega
  ·have := zf1 (m := m) h; simp only [sumM]; omega
theorem zlg {β : Type} {m : β → Nat} (h : ∀ x, 1 ≤ m x) : ∀ l : List β, l.length ≤ sumM m l
 | [] => by simp
 | x :: r => by have := zlg h r; have := h x; simp only [sumM, List.length_cons]; omega
def mT (s : ByteArray) : Nat := s.size + 1
theorem zyc {l : List ByteArray} {x : ByteArray} (h : x ∈ l) : x.size + 1 ≤ sumM mT l := zf1 (m := mT) h
theorem zyd (l : List ByteArray) : l.length ≤ sumM mT l := zlg (fun x => by unfold mT; omega) l
def mCh (c : z9x) : Nat := c.Name.size + c.From.size + c.To.size + sumM mT c.Tags + 6
def mMo (m : z96) : Nat := m.Tag.size + 3
def mRu (r : z9y) : Nat := r.Chan.size + sumM mMo r.Moves + 2
def mPr (p : z9z) : Nat := p.Name.size + sumM mT p.Vars + mL p.Body + 3
def mSys (s : z43) : Nat := sumM mCh s.Chans + sumM mRu s.Rules + sumM mPr s.Procs + 3
def rgMo (m : z96) : Prop := in64 m.From ∧ in64 m.To
def z02y (s : z43) : Prop := (∀ c ∈ s.Chans, in64 c.Size) ∧ (∀ r ∈ s.Rules, ∀ m ∈ r.Moves, rgMo m) ∧ (∀ p ∈ s.Procs, rgL p.Body)
theorem zgz {β : Type} {c m : β → Nat} : ∀ {l : List β}, (∀ x ∈ l, c x ≤ m x) → sumN c l ≤ sumM m l
 | [], _ => Nat.le_refl _
 | x :: r, h => by
  have h1 := h x List.mem_cons_self
  have h2 := zgz (l := r) fun y hy => h y (List.mem_cons_of_mem _ hy)
  simp only [sumN, sumM]; omega
theorem okSys_of {s : z43} (h : z02y s) (hm : mSys s ≤ 1048576) : zsc (cSys s) ∧ zjm (cSys s) ≤ 2000000 := by
 obtain ⟨h1, h2, h3⟩ := h
 unfold mSys at hm
 have c1 : ∀ c ∈ s.Chans, mCh c ≤ 1048576 := fun c hc => by have := zf1 (m := mCh) hc; omega
 have c2 : ∀ c ∈ s.Rules, mRu c ≤ 1048576 := fun c hc => by have := zf1 (m := mRu) hc; omega
 have c3 : ∀ c ∈ s.Procs, mPr c ≤ 1048576 := fun c hc => by have := zf1 (m := mPr) hc; omega
 have k3 : ∀ p ∈ s.Procs, okL (cL p.Body) ∧ szL (cL p.Body) ≤ mL p.Body + 1 := fun p hp => znd p.Body (h3 p hp) (by have := c3 p hp; unfold mPr at this; omega)
 refine ⟨⟨?_, ?_, ?_⟩, ?_⟩
 ·intro c hc
  obtain ⟨x, hx, rfl⟩ := List.mem_map.1 hc
  have := c1 x hx
  unfold mCh at this
  refine ⟨?_, ?_, ?_, h1 x hx, fun t ht => ?_⟩
  ·show x.Name.size ≤ _; omega
  ·show x.From.size ≤ _; omega
  ·show x.To.size ≤ _; omega
  ·have h7 := zyc (l := x.Tags) ht; omega
 ·intro c hc
  obtain ⟨x, hx, rfl⟩ := List.mem_map.1 hc
  have := c2 x hx
  unfold mRu at this
  refine ⟨?_, fun m hm => ?_⟩
  ·show x.Chan.size ≤ _; omega
  ·obtain ⟨y, hy, rfl⟩ := List.mem_map.1 hm
   have h4 := h2 x hx y hy
   have h5 := zf1 (m := mMo) hy
   have h6 : mMo y = y.Tag.size + 3 := rfl
   refine ⟨h4.1, ?_, h4.2⟩
   show y.Tag.size ≤ _; omega
 ·intro c hc
  obtain ⟨x, hx, rfl⟩ := List.mem_map.1 hc
  have := c3 x hx
  unfold mPr at this
  refine ⟨?_, fun v hv => ?_, (k3 x hx).1⟩
  ·show x.Name.size ≤ _; omega
  ·have h7 := zyc (l := x.Vars) hv; omega
 ·unfold zjm
  simp only [cSys]
  rw [zh0, zh0, zh0]
  have s1 : sumN (fun x => szCh (cCh x)) s.Chans ≤ sumM mCh s.Chans := zgz fun x hx => by
   have := zyd x.Tags
   show 3 + x.Tags.length ≤ _
   unfold mCh; omega
  have s2 : sumN (fun x => szR (cRu x)) s.Rules ≤ sumM mRu s.Rules := zgz fun x hx => by
   have := zlg (m := mMo) (fun x => by unfold mMo; omega) x.Moves
   show 1 + (x.Moves.map cMo).length ≤ _
   rw [List.length_map]
   unfold mRu; omega
  have s3 : sumN (fun x => szP (cPr x)) s.Procs ≤ sumM mPr s.Procs := zgz fun x hx => by
   have := zyd x.Vars
   have := (k3 x hx).2
   show 1 + x.Vars.length + szL (cL x.Body) ≤ _
   unfold mPr; omega
  omega
section
variable {H : Type} {enc : TypeId × Value → H} {w : World}
theorem zne (fuel : Nat) : DecB Tryz.prog enc w fuel 51 (fun l : List ByteArray => [.sl (l.map z0v)]) (fun l => (∀ x ∈ l, x.size ≤ maxLen) ∧ l.length ≤ maxLen) (fun l => sumM mT l + 1) :=
 zdc (e := z0v) (ok := fun s => s.size ≤ maxLen) (m := mT) Tryz.underlying51 (by kernel_rfl) (by decide) (fun _ => rfl) fun g hg => z94 Tryz.underlying9 g
theorem z00d (fuel : Nat) : DecB Tryz.prog enc w fuel 90 zbb (fun c => in64 c.Size) mCh := by
 cases fuel with
 | zero => exact zjp
 | succ f =>
  refine z7d (N := 6) (fun x : ByteArray × Int × Int × ByteArray × ByteArray × List ByteArray × Unit => z9x.mk x.1 x.2.1 x.2.2.1 x.2.2.2.1 x.2.2.2.2.1 x.2.2.2.2.2.1) Tryz.underlying90 (by kernel_rfl)
   (z32 (sz := 1) rfl (by kernel_rfl) (z94 Tryz.underlying9 f) (z32 (sz := 1) rfl (by kernel_rfl) (zc0 Tryz.underlying3 f) (z32 (sz := 1) rfl (by kernel_rfl) (zc0 Tryz.underlying3 f)
    (z32 (sz := 1) rfl (by kernel_rfl) (z94 Tryz.underlying9 f) (z32 (sz := 1) rfl (by kernel_rfl) (z94 Tryz.underlying9 f) (z32 (sz := 1) rfl (by kernel_rfl) (zne f) (zb7 (by decide))))))))
   (fun x => rfl) (fun x h => zlf h.2.2.1) (fun x => ?_)
  show x.1.size + x.2.2.2.1.size + x.2.2.2.2.1.size + sumM mT x.2.2.2.2.2.1 + 6 ≤ x.1.size + 1 + (1 + (1 + (x.2.2.2.1.size + 1 + (x.2.2.2.2.1.size + 1 + (sumM mT x.2.2.2.2.2.1 + 1 + 0))))) + 1
  omega
theorem z00e (fuel : Nat) : DecB Tryz.prog enc w fuel 98 zbc rgMo mMo := by
 cases fuel with
 | zero => exact zjp
 | succ f =>
  refine z7d (N := 3) (fun x : Int × ByteArray × Int × Unit => z96.mk x.1 x.2.1 x.2.2.1) Tryz.underlying98 (by kernel_rfl)
   (z32 (sz := 1) rfl (by kernel_rfl) (zc0 Tryz.underlying3 f) (z32 (sz := 1) rfl (by kernel_rfl) (z94 Tryz.underlying9 f) (z32 (sz := 1) rfl (by kernel_rfl) (zc0 Tryz.underlying3 f) (zb7 (by decide)))))
   (fun x => rfl) (fun x h => ⟨zlf h.1, zlf h.2.2.1⟩) (fun x => ?_)
  show x.2.1.size + 3 ≤ 1 + (x.2.1.size + 1 + (1 + 0)) + 1
  omega
theorem z00f (fuel : Nat) : DecB Tryz.prog enc w fuel 95 z7m (fun r => ∀ m ∈ r.Moves, rgMo m) mRu := by
 cases fuel with
 | zero => exact zjp
 | succ f =>
  refine z7d (N := 2) (fun x : ByteArray × List z96 × Unit => z9y.mk x.1 x.2.1) Tryz.underlying95 (by kernel_rfl)
   (z32 (sz := 1) rfl (by kernel_rfl) (z94 Tryz.underlying9 f) (z32 (sz := 1) rfl (by kernel_rfl) (zdc (e := zbc) (sz := 3) Tryz.underlying93 (by kernel_rfl) (by decide) (fun _ => rfl) fun g hg => z00e g) (zb7 (by decide))))
   (fun x => rfl) (fun x h => h.2.1.1) (fun x => ?_)
  show x.1.size + sumM mMo x.2.1 + 2 ≤ x.1.size + 1 + (sumM mMo x.2.1 + 1 + 0) + 1
  omega
theorem z00g (fuel : Nat) : DecB Tryz.prog enc w fuel 53 zbd (fun p => rgL p.Body) mPr := by
 cases fuel with
 | zero => exact zjp
 | succ f =>
  refine z7d (N := 3) (fun x : ByteArray × List ByteArray × List z0t × Unit => z9z.mk x.1 x.2.1 x.2.2.1) Tryz.underlying53 (by kernel_rfl)
   (z32 (sz := 1) rfl (by kernel_rfl) (z94 Tryz.underlying9 f) (z32 (sz := 1) rfl (by kernel_rfl) (zne f) (z32 (sz := 1) rfl (by kernel_rfl) (z02x f) (zb7 (by decide)))))
   (fun x => rfl) (fun x h => znc h.2.2.1.1) (fun x => ?_)
  show x.1.size + sumM mT x.2.1 + mL x.2.2.1 + 3 ≤ x.1.size + 1 + (sumM mT x.2.1 + 1 + (sumM mS x.2.2.1 + 1 + 0)) + 1
  rw [zqe]; omega
theorem decB_Sys (fuel : Nat) : DecB Tryz.prog enc w fuel 34 z5n z02y mSys := by
 cases fuel with
 | zero => exact zjp
 | succ f =>
  refine z7d (N := 3) (fun x : List z9x × List z9y × List z9z × Unit => z43.mk x.1 x.2.1 x.2.2.1) Tryz.underlying34 (by kernel_rfl)
   (z32 (sz := 1) rfl (by kernel_rfl) (zdc (e := zbb) (sz := 6) Tryz.underlying30 (by kernel_rfl) (by decide) (fun _ => rfl) fun g hg => z00d g) (z32 (sz := 1) rfl (by kernel_rfl) (zdc (e := z7m) (sz := 2) Tryz.underlying31 (by kernel_rfl) (by decide) (fun _ => rfl) fun g hg => z00f g)
    (z32 (sz := 1) rfl (by kernel_rfl) (zdc (e := zbd) (sz := 3) Tryz.underlying32 (by kernel_rfl) (by decide) (fun _ => rfl) fun g hg => z00g g) (zb7 (by decide)))))
   (fun x => rfl) (fun x h => ⟨h.1.1, h.2.1.1, h.2.2.1.1⟩) (fun x => ?_)
  show sumM mCh x.1 + sumM mRu x.2.1 + sumM mPr x.2.2.1 + 3 ≤ sumM mCh x.1 + 1 + (sumM mRu x.2.1 + 1 + (sumM mPr x.2.2.1 + 1 + 0)) + 1
  omega
end
end Go.Proofs.YtokjbpmjdcbogaaGreatDoor.Abs.Wri
