/- Words that may be written are short. -/
import Derived.Test.YtokjbpmjdcbogaaGreatDoorParT
import Derived.Test.YtokjbpmjdcbogaaGreatDoorPlB
import Derived.Test.YtokjbpmjdcbogaaGreatDoorAbsB
import Derived.Test.YtokjbpmjdcbogaaGreatDoorGwF
namespace Go.Proofs.YtokjbpmjdcbogaaGreatDoor.Abs.Par
open Go Go.RowKit Wri
set_option linter.unusedVariables false
set_option linter.unusedSimpArgs false
theorem zuj : ∀ n l p, ∀ t ∈ (lexF n l p).1, t.kind = 1 → t.text.length ≤ 12 := by
 intro n
 induction n with
 | zero => intro l p t ht; cases ht
 | succ n ih =>
  intro l p t ht hk
  cases l with
  | nil => cases ht
  | cons b r =>
   simp only [lexF] at ht
   split at ht
   ·exact ih _ _ t ht hk
   ·cases hw : zdf (b :: r) with
    | error e => rw [hw] at ht; cases ht
    | ok w =>
     rw [hw] at ht
     simp only [List.mem_cons] at ht
     rcases ht with rfl | ht
     ·have hk : w.kind = 1 := hk
      have h12 : w.len ≤ 12 := by
       rw [zbt] at hw
       split at hw
       ·split at hw
        ·cases hw
        ·injection hw with hw; subst hw; simp only at hk ⊢; omega
       ·split at hw
        ·split at hw
         ·injection hw with hw; subst hw; simp at hk
         ·cases hw
        ·split at hw
         ·cases hw
         ·injection hw with hw; subst hw; simp at hk
      simp only [List.length_take]; omega
     ·exact ih _ _ t ht hk
theorem zuk {s : ByteArray} (h : z2v s = true) : s.size ≤ 24 := by
 unfold z2v at h
 simp only [Bool.and_eq_true] at h
 obtain ⟨⟨h1, h2⟩, h3⟩ := h
 rw [zwj s.data.toList.length _ _ (Nat.le_refl _)] at h3
 have hs := zuj s.data.toList.length s.data.toList 0
 unfold finT at h3
 generalize lexF s.data.toList.length s.data.toList 0 = z at *
 split at h3
 ·rename_i t r he
  simp only [Bool.and_eq_true, beq_iff_eq] at h3
  obtain ⟨hk, ht⟩ := h3
  unfold told at he
  split at he
  ·cases he
  ·split at he
   ·cases he
   ·cases hz : z.1 with
    | nil => rw [hz] at he; cases he
    | cons t' r' =>
     rw [hz] at he
     injection he with he1 he2
     subst he1
     have h12 := hs t' (by rw [hz]; simp) hk
     have ht' : t'.text = s.data.toList := by
      have := ht
      rw [Go.ByteArray.toList_eq, Go.ByteArray.toList_eq, zok] at this
      exact this
     have : s.size = s.data.toList.length := by cases s; simp [ByteArray.size]
     rw [this, ← ht']; omega
 ·cases h3
theorem zwk {n : Int} (h : za0 n = true) : (ze1 n).size ≤ 24 := by
 unfold za0 at h
 simp only [Bool.and_eq_true, decide_eq_true_eq] at h
 have := Lib.itoa_length_le n (by omega) (by omega)
 have e : (ze1 n).size = (Lib.itoa n).length := by unfold ze1; simp [ByteArray.size]
 omega
end Go.Proofs.YtokjbpmjdcbogaaGreatDoor.Abs.Par
namespace Go.Proofs.YtokjbpmjdcbogaaGreatDoor.Abs.Wri
open Go Go.RowKit Par
def Sh (x : Wr) : Prop := x.bad = false → ∀ w ∈ x.ws, w.size ≤ 24
theorem Sh.app {x y : Wr} (hx : Sh x) (hy : Sh y) : Sh (x ++ y) := fun h w hw => by
 simp only [Wr.app_def, Bool.or_eq_false_iff] at h
 simp only [Wr.ws_app, List.mem_append] at hw
 rcases hw with hw | hw
 ·exact hx h.1 w hw
 ·exact hy h.2 w hw
theorem ze6 : Sh Wr.nil := fun _ w hw => by cases hw
theorem sh_M (b : Bool) : Sh (wM b) := fun _ w hw => by cases hw
theorem sh_D (b : Int) : Sh (wD b) := fun _ w hw => by cases hw
theorem sh_W {l : List ByteArray} (h : ∀ w ∈ l, w.size ≤ 24) : Sh (wW l) := fun _ w hw => h w hw
theorem sh_1 {w : ByteArray} (h : w.size ≤ 24) : Sh (wW [w]) := sh_W fun v hv => by simp at hv; subst hv; exact h
theorem sh_2 {w v : ByteArray} (h : w.size ≤ 24) (h' : v.size ≤ 24) : Sh (wW [w, v]) := sh_W fun x hv => by
 simp at hv; rcases hv with rfl | rfl
 ·exact h
 ·exact h'
theorem sh_N (s : ByteArray) : Sh (wN s) := fun h w hw => by
 simp only [wN, List.mem_singleton] at hw; subst hw
 simp only [wN, Bool.not_eq_false'] at h
 exact zuk h
theorem sh_I (n : Int) : Sh (wI n) := fun h w hw => by
 simp only [wI, List.mem_singleton] at hw; subst hw
 simp only [wI, Bool.not_eq_false'] at h
 exact zwk h
theorem sh_P {m : Bool} {f : Int → Wr} {p : Int} (h : ∀ q, Sh (f q)) : Sh (inP m f p) := by
 have h1 := h (p + 1)
 have h2 := h p
 unfold inP
 repeat' first
  | assumption | exact sh_D _ | exact sh_1 (by decide) | apply Sh.app | split
theorem sh_B {f : Int → Wr} {b : Int} (h : ∀ q, Sh (f q)) : Sh (inB f b) := by
 have h1 := h (b + 1)
 unfold inB
 repeat' first
  | assumption | exact sh_D _ | exact sh_1 (by decide) | apply Sh.app
theorem zmf (e : z03) : Sh (zcs e) := by
 unfold zcs
 repeat' first
  | exact sh_M _ | exact sh_I _ | exact sh_N _ | apply Sh.app | split
theorem z6k (k : Int) : (zl0 k).size ≤ 24 := by unfold zl0; split <;> decide
theorem za4 (k : Int) : (opW k).size ≤ 24 := by unfold opW; split <;> decide
theorem z77 (k : Int) : (zmg k).size ≤ 24 := by unfold zmg; split <;> decide
theorem sh_E : ∀ (e : z03) (p : Int), Sh (sE e p)
 | ⟨k, n, s, []⟩, p => by simp only [sE]; exact zmf _
 | ⟨k, n, s, [x]⟩, p => by
  simp only [sE]
  split
  ·exact Sh.app (sh_1 (by decide)) (Sh.app (sh_D _) (sh_P (sh_E x)))
  ·exact zmf _
 | ⟨k, n, s, [l, r]⟩, p => by
  simp only [sE]
  split
  ·exact Sh.app (sh_P (sh_E l)) (Sh.app (sh_1 (z6k k)) (sh_P (sh_E r)))
  ·exact zmf _
 | ⟨k, n, s, a :: b :: c :: l⟩, p => by simp only [sE]; exact zmf _
theorem sh_C (c : z2n) (p : Int) : Sh (sC c p) := by
 unfold sC
 repeat' first
  | assumption | exact sh_N _ | exact sh_I _ | exact sh_M _ | exact sh_D _ | exact ze6 | exact sh_E _ _ | exact sh_1 (z77 _) | exact sh_1 (z6k _) | exact sh_1 (za4 _) | exact sh_1 (by decide) | exact sh_2 (by decide) (by decide)
  | exact sh_P (sh_E _) | apply Sh.app | split
mutual
theorem sh_S : ∀ (s : z02) (b p : Int), Sh (sS s b p)
 | .mk k n t e c bo el ar, b, p => by
  have h3 : Sh (inB (fun q => sL bo q p) b) := sh_B fun q => sh_L bo q p
  have h4 : Sh (inB (fun q => sL el q p) b) := sh_B fun q => sh_L el q p
  have h5 := sh_A ar b p
  simp only [sS]
  repeat' first
   | assumption | exact sh_N _ | exact sh_I _ | exact sh_M _ | exact sh_D _ | exact ze6 | exact sh_E _ _ | exact sh_C _ _ | exact sh_1 (z77 _) | exact sh_1 (z6k _) | exact sh_1 (za4 _) | exact sh_1 (by decide) | exact sh_2 (by decide) (by decide)
   | exact sh_P (sh_E _) | apply Sh.app | split
theorem sh_L : ∀ (l : List z02) (b p : Int), Sh (sL l b p)
 | [], b, p => by simp only [sL]; exact ze6
 | s :: r, b, p => by simp only [sL]; exact Sh.app (sh_S s b p) (sh_L r b p)
theorem sh_A : ∀ (l : List z0n) (b p : Int), Sh (sA l b p)
 | [], b, p => by simp only [sA]; exact ze6
 | .mk t v bo :: r, b, p => by
  have h3 : Sh (inB (fun q => sL bo q p) b) := sh_B fun q => sh_L bo q p
  simp only [sA]
  have h4 := sh_A r b p
  repeat' first
   | assumption | exact sh_N _ | exact sh_I _ | exact sh_M _ | exact sh_D _ | exact ze6 | exact sh_E _ _ | exact sh_C _ _ | exact sh_1 (z77 _) | exact sh_1 (z6k _) | exact sh_1 (za4 _) | exact sh_1 (by decide) | exact sh_2 (by decide) (by decide)
   | exact sh_P (sh_E _) | apply Sh.app | split
end
theorem zgs {β : Type} {g : Nat → β → Wr} (h : ∀ i x, Sh (g i x)) : ∀ (l : List β) (i : Nat), Sh (z6n g i l)
 | [], i => by simp only [z6n]; exact ze6
 | x :: r, i => by simp only [z6n]; exact Sh.app (h i x) (zgs h r (i + 1))
theorem z05j (i : Nat) (t : ByteArray) : Sh (wVar i t) := by
 unfold wVar
 repeat' first
  | assumption | exact sh_N _ | exact sh_I _ | exact sh_M _ | exact sh_D _ | exact ze6 | exact sh_E _ _ | exact sh_C _ _ | exact sh_1 (z77 _) | exact sh_1 (z6k _) | exact sh_1 (za4 _) | exact sh_1 (by decide) | exact sh_2 (by decide) (by decide)
  | exact sh_P (sh_E _) | apply Sh.app | split
theorem z07v (i : Nat) (t : z35) : Sh (zhk i t) := by
 unfold zhk
 repeat' first
  | assumption | exact sh_N _ | exact sh_I _ | exact sh_M _ | exact sh_D _ | exact ze6 | exact sh_E _ _ | exact sh_C _ _ | exact sh_1 (z77 _) | exact sh_1 (z6k _) | exact sh_1 (za4 _) | exact sh_1 (by decide) | exact sh_2 (by decide) (by decide)
  | exact sh_P (sh_E _) | apply Sh.app | split
theorem z07w (p : z2d) : Sh (sP p) := by
 have h1 := zgs z05j p.Vars 0
 have h2 := sh_L p.Body 0 0
 unfold sP
 repeat' first
  | assumption | exact sh_N _ | exact sh_I _ | exact sh_M _ | exact sh_D _ | exact ze6 | exact sh_E _ _ | exact sh_C _ _ | exact sh_1 (z77 _) | exact sh_1 (z6k _) | exact sh_1 (za4 _) | exact sh_1 (by decide) | exact sh_2 (by decide) (by decide)
  | exact sh_P (sh_E _) | apply Sh.app | split
theorem z07x (r : z2c) : Sh (sR r) := by
 have h1 := zgs z07v r.Moves 0
 unfold sR
 repeat' first
  | assumption | exact sh_N _ | exact sh_I _ | exact sh_M _ | exact sh_D _ | exact ze6 | exact sh_E _ _ | exact sh_C _ _ | exact sh_1 (z77 _) | exact sh_1 (z6k _) | exact sh_1 (za4 _) | exact sh_1 (by decide) | exact sh_2 (by decide) (by decide)
  | exact sh_P (sh_E _) | apply Sh.app | split
theorem z05k (i : Nat) (t : ByteArray) : Sh (wTag i t) := by
 unfold wTag
 repeat' first
  | assumption | exact sh_N _ | exact sh_I _ | exact sh_M _ | exact sh_D _ | exact ze6 | exact sh_E _ _ | exact sh_C _ _ | exact sh_1 (z77 _) | exact sh_1 (z6k _) | exact sh_1 (za4 _) | exact sh_1 (by decide) | exact sh_2 (by decide) (by decide)
  | exact sh_P (sh_E _) | apply Sh.app | split
theorem z07y (c : z24) : Sh (sCh c) := by
 have h1 := zgs z05k c.Tags 0
 unfold sCh
 repeat' first
  | assumption | exact sh_N _ | exact sh_I _ | exact sh_M _ | exact sh_D _ | exact ze6 | exact sh_E _ _ | exact sh_C _ _ | exact sh_1 (z77 _) | exact sh_1 (z6k _) | exact sh_1 (za4 _) | exact sh_1 (by decide) | exact sh_2 (by decide) (by decide)
  | exact sh_P (sh_E _) | apply Sh.app | split
theorem z05l (s : z18) : Sh (sSys s) := by
 unfold sSys
 exact Sh.app (zgs (fun _ => z07y) _ _) (Sh.app (zgs (fun _ => z07x) _ _) (zgs (fun _ => z07w) _ _))
end Go.Proofs.YtokjbpmjdcbogaaGreatDoor.Abs.Wri
/- One word, and what follows a blank. -/
namespace Go.Proofs.YtokjbpmjdcbogaaGreatDoor.Abs.Wri
open Go Go.RowKit
set_option linter.unusedVariables false
set_option linter.unusedSimpArgs false
/-- A text that is one word. -/
def oneW (w : Bs) (x : W) : Prop := zdf w = .ok x ∧ x.len = w.length
end Go.Proofs.YtokjbpmjdcbogaaGreatDoor.Abs.Wri
/- A name is one word. -/
namespace Go.Proofs.YtokjbpmjdcbogaaGreatDoor.Abs.Wri
open Go Go.RowKit
set_option linter.unusedVariables false
set_option linter.unusedSimpArgs false
theorem zs8 : ∀ (n : Nat) (l : Bs) (p : Nat), l.length ≤ n → ∀ t ∈ (lexS l p).1, t.text.length ≤ l.length := by
 intro n
 induction n with
 | zero =>
  intro l p h t ht
  have : l = [] := List.eq_nil_of_length_eq_zero (by omega)
  subst this
  rw [lexS] at ht; cases ht
 | succ n ih =>
  intro l p h t ht
  cases l with
  | nil => rw [lexS] at ht; cases ht
  | cons b r =>
   simp only [List.length_cons] at h ⊢
   rw [lexS] at ht
   split at ht
   ·have := ih r _ (by omega) t ht; omega
   ·split at ht
    ·cases ht
    ·rename_i w hw
     simp only [List.mem_cons] at ht
     rcases ht with rfl | ht
     ·simp only [List.length_take, List.length_cons]; omega
     ·have := ih (r.drop (w.len - 1)) _ (by simp; omega) t ht
      simp only [List.length_drop] at this; omega
theorem zs9 {s : ByteArray} (h : z2v s = true) : ∃ x, oneW s.data.toList x ∧ x.kind = 1 ∧ ∀ b ∈ s.data.toList.head?, isB b = false := by
 unfold z2v at h
 simp only [Bool.and_eq_true] at h
 obtain ⟨_, h3⟩ := h
 have hs := zs8 s.data.toList.length s.data.toList
 unfold finT at h3
 generalize hl : s.data.toList = l at *
 split at h3
 ·rename_i t r he
  simp only [Bool.and_eq_true, beq_iff_eq] at h3
  obtain ⟨hk, ht⟩ := h3
  unfold told at he
  split at he
  ·cases he
  ·split at he
   ·cases he
   ·cases l with
    | nil => rw [lexS] at he; cases he
    | cons b q =>
     have hb : isB b = false := by
      cases hb : isB b with
      | false => rfl
      | true =>
       rw [lexS, if_pos hb] at he
       cases hz : (lexS q (0 + 1)).1 with
       | nil => rw [hz] at he; cases he
       | cons t' r' =>
        rw [hz] at he
        injection he with he1 he2
        subst he1
        have h4 := zs8 q.length q (0 + 1) (Nat.le_refl _) t' (by rw [hz]; simp)
        rw [Go.ByteArray.toList_eq, Go.ByteArray.toList_eq, hl] at ht
        have ht : t'.text = b :: q := by simpa [tokT] using ht
        rw [ht] at h4; simp at h4; omega
     rw [lexS] at he
     simp only [hb, Bool.false_eq_true, if_false] at he
     cases hw : zdf (b :: q) with
     | error e => rw [hw] at he; cases he
     | ok w =>
      rw [hw] at he
      simp only [List.map_cons] at he
      injection he with he1 he2
      subst he1
      rw [Go.ByteArray.toList_eq, Go.ByteArray.toList_eq, hl] at ht
      have ht : (b :: q).take w.len = b :: q := by simpa [tokT] using ht
      have h1 := congrArg List.length ht
      have h2 := (zhl hw).2
      rw [List.length_take] at h1
      exact ⟨w, ⟨hw, by omega⟩, hk, fun c hc => by simp at hc; subst hc; exact hb⟩
 ·cases h3
end Go.Proofs.YtokjbpmjdcbogaaGreatDoor.Abs.Wri
/- A number's numeral is one word. -/
namespace Go.Proofs.YtokjbpmjdcbogaaGreatDoor.Abs.Wri
open Go Go.RowKit
set_option linter.unusedVariables false
set_option linter.unusedSimpArgs false
theorem zwl (d : Nat) (h : d < 10) : isD (UInt8.ofNat (48 + d)) = true ∧ (UInt8.ofNat (48 + d)).toNat - 48 = d ∧ (UInt8.ofNat (48 + d) = 48 → d = 0) ∧ isL (UInt8.ofNat (48 + d)) = false ∧ isA (UInt8.ofNat (48 + d)) = true ∧ isB (UInt8.ofNat (48 + d)) = false := by
 have : d = 0 ∨ d = 1 ∨ d = 2 ∨ d = 3 ∨ d = 4 ∨ d = 5 ∨ d = 6 ∨ d = 7 ∨ d = 8 ∨ d = 9 := by omega
 rcases this with rfl | rfl | rfl | rfl | rfl | rfl | rfl | rfl | rfl | rfl <;> decide
theorem zwm (t : Bs) (b : UInt8) : dval (t ++ [b]) = 10 * dval t + (b.toNat - 48) := by simp [dval, List.foldl_append]
theorem zwn : ∀ u : Nat, dval (Lib.decDigits u) = u ∧ (∀ b ∈ Lib.decDigits u, isD b = true ∧ isL b = false ∧ isA b = true ∧ isB b = false) ∧ Lib.decDigits u ≠ [] ∧ ((Lib.decDigits u).head? = some 48 → u = 0) := by
 intro u
 induction u using Nat.strongRecOn with
 | _ u ih =>
 by_cases h : u < 10
 ·have hd := zwl u h
  rw [Lib.decDigits, dif_pos h]
  refine ⟨by simp only [dval, List.foldl_cons, List.foldl_nil]; omega, fun b hb => ?_, by simp, fun hh => ?_⟩
  ·rw [List.mem_singleton] at hb; subst hb; exact ⟨hd.1, hd.2.2.2.1, hd.2.2.2.2.1, hd.2.2.2.2.2⟩
  ·rw [List.head?_cons, Option.some.injEq] at hh; exact hd.2.2.1 hh
 ·have hd := zwl (u % 10) (by omega)
  obtain ⟨h1, h2, h3, h4⟩ := ih (u / 10) (by omega)
  rw [Lib.decDigits, dif_neg h]
  refine ⟨by rw [zwm, h1, hd.2.1]; omega, fun b hb => ?_, by simp, fun hh => ?_⟩
  ·rcases List.mem_append.1 hb with hb | hb
   ·exact h2 b hb
   ·rw [List.mem_singleton] at hb; subst hb; exact ⟨hd.1, hd.2.2.2.1, hd.2.2.2.2.1, hd.2.2.2.2.2⟩
  ·cases hq : Lib.decDigits (u / 10) with
   | nil => exact absurd hq h3
   | cons b r =>
    rw [hq] at hh h4
    have := h4 (by simpa using hh)
    omega
theorem zsa : ∀ w : Bs, (∀ b ∈ w, isA b = true) → runL w = w.length
 | [], _ => rfl
 | b :: r, h => by rw [zc9, if_pos (h b (by simp)), zsa r (fun c hc => h c (by simp [hc]))]; rfl
theorem z02w (u : Nat) (hu : u ≤ 2147483647) : oneW (Lib.decDigits u) ⟨2, (Lib.decDigits u).length, u⟩ ∧ ∀ b ∈ (Lib.decDigits u).head?, isB b = false := by
 obtain ⟨h1, h2, h3, h4⟩ := zwn u
 have hr := zsa _ (fun b hb => (h2 b hb).2.2.1)
 have hall : (Lib.decDigits u).all isD = true := List.all_eq_true.2 fun b hb => (h2 b hb).1
 have hlen : (Lib.decDigits u).length ≤ 10 ∧ ((Lib.decDigits u).head? = some 48 → (Lib.decDigits u).length = 1) := by
  by_cases h0 : u = 0
  ·subst h0; rw [Lib.decDigits, dif_pos (by omega)]; exact ⟨by simp, fun _ => by simp⟩
  ·cases hq : Lib.decDigits u with
   | nil => exact absurd hq h3
   | cons c r =>
    rw [hq] at h1 h2 h4
    exact ⟨zsb c r (h2 c (by simp)).1 (fun hc => h0 (h4 (by simp [hc]))) (by omega), fun hh => absurd (h4 hh) h0⟩
 cases hq : Lib.decDigits u with
 | nil => exact absurd hq h3
 | cons c r =>
  rw [hq] at h1 h2 hr hall hlen
  have hc := h2 c (by simp)
  have ht : (c :: r).take (c :: r).length = c :: r := by simp
  refine ⟨⟨?_, rfl⟩, fun b hb => by simp at hb; subst hb; exact hc.2.2.2⟩
  rw [zbt, if_neg (by rw [hc.2.1]; decide), if_pos hc.1, hr, ht]
  have hok : zol (c :: r) = true := by
   unfold zol
   simp only [Bool.and_eq_true, decide_eq_true_eq, hall, Bool.not_eq_true', Bool.and_eq_false_iff, decide_eq_false_iff_not]
   refine ⟨⟨⟨hlen.1, ?_⟩, trivial⟩, by omega⟩
   by_cases h48 : (c :: r).head? = some 48
   ·left; have := hlen.2 h48; omega
   ·right; simpa using h48
  rw [if_pos hok, h1]
theorem zmh {n : Int} (h : za0 n = true) : oneW (ze1 n).data.toList ⟨2, (ze1 n).data.toList.length, n.toNat⟩ ∧ ∀ b ∈ (ze1 n).data.toList.head?, isB b = false := by
 unfold za0 at h
 simp only [Bool.and_eq_true, decide_eq_true_eq] at h
 have e : (ze1 n).data.toList = Lib.decDigits n.toNat := by
  unfold ze1 Lib.itoa
  rw [if_neg (by omega)]
 rw [e]
 exact z02w n.toNat (by omega)
end Go.Proofs.YtokjbpmjdcbogaaGreatDoor.Abs.Wri
/- Words that may be written are words that are read. -/
namespace Go.Proofs.YtokjbpmjdcbogaaGreatDoor.Abs.Wri
open Go Go.RowKit
set_option linter.unusedVariables false
set_option linter.unusedSimpArgs false
/-- Is it one word that begins with no blank? -/
def oneS (s : ByteArray) : Bool := match zdf s.data.toList with
 | .ok x => x.len == s.data.toList.length && !((s.data.toList.head?.map isB).getD true)
 | .error _ => false
theorem zwo {s : ByteArray} {x : W} (h : oneW s.data.toList x) (hb : ∀ b ∈ s.data.toList.head?, isB b = false) : oneS s = true := by
 unfold oneS
 obtain ⟨h1, h2⟩ := h
 rw [h1]
 cases hq : s.data.toList with
 | nil => rw [hq] at h1; cases h1
 | cons b r => rw [hq] at hb h2; simp [h2, hb b (by simp)]
theorem z02x {s : ByteArray} (h : oneS s = true) : ∃ x, oneW s.data.toList x ∧ ∀ b ∈ s.data.toList.head?, isB b = false := by
 unfold oneS at h
 cases hw : zdf s.data.toList with
 | error e => rw [hw] at h; cases h
 | ok x =>
  rw [hw] at h
  simp only [Bool.and_eq_true, beq_iff_eq] at h
  refine ⟨x, ⟨hw, h.1⟩, fun b hb => ?_⟩
  have h2 := h.2
  rw [Option.mem_def.1 hb] at h2
  simpa using h2
theorem zwp {s : ByteArray} (h : z2v s = true) : oneS s = true := by
 obtain ⟨x, h1, _, h2⟩ := zs9 h
 exact zwo h1 h2
theorem zz6 {n : Int} (h : za0 n = true) : oneS (ze1 n) = true := zwo (zmh h).1 (zmh h).2
def Ow (x : Wr) : Prop := x.bad = false → ∀ w ∈ x.ws, oneS w = true
theorem Ow.app {x y : Wr} (hx : Ow x) (hy : Ow y) : Ow (x ++ y) := fun h w hw => by
 simp only [Wr.app_def, Bool.or_eq_false_iff] at h
 simp only [Wr.ws_app, List.mem_append] at hw
 rcases hw with hw | hw
 ·exact hx h.1 w hw
 ·exact hy h.2 w hw
theorem ze7 : Ow Wr.nil := fun _ w hw => by cases hw
theorem ow_M (b : Bool) : Ow (wM b) := fun _ w hw => by cases hw
theorem ow_D (b : Int) : Ow (wD b) := fun _ w hw => by cases hw
theorem ow_W {l : List ByteArray} (h : ∀ w ∈ l, oneS w = true) : Ow (wW l) := fun _ w hw => h w hw
theorem ow_1 {w : ByteArray} (h : oneS w = true) : Ow (wW [w]) := ow_W fun v hv => by simp at hv; subst hv; exact h
theorem ow_2 {w v : ByteArray} (h : oneS w = true) (h' : oneS v = true) : Ow (wW [w, v]) := ow_W fun x hv => by
 simp at hv; rcases hv with rfl | rfl
 ·exact h
 ·exact h'
theorem ow_N (s : ByteArray) : Ow (wN s) := fun h w hw => by
 simp only [wN, List.mem_singleton] at hw; subst hw
 simp only [wN, Bool.not_eq_false'] at h
 exact zwp h
theorem ow_I (n : Int) : Ow (wI n) := fun h w hw => by
 simp only [wI, List.mem_singleton] at hw; subst hw
 simp only [wI, Bool.not_eq_false'] at h
 exact zz6 h
theorem ow_P {m : Bool} {f : Int → Wr} {p : Int} (h : ∀ q, Ow (f q)) : Ow (inP m f p) := by
 have h1 := h (p + 1)
 have h2 := h p
 unfold inP
 repeat' first
  | assumption | exact ow_D _ | exact ow_1 (by decide) | apply Ow.app | split
theorem ow_B {f : Int → Wr} {b : Int} (h : ∀ q, Ow (f q)) : Ow (inB f b) := by
 have h1 := h (b + 1)
 unfold inB
 repeat' first
  | assumption | exact ow_D _ | exact ow_1 (by decide) | apply Ow.app
theorem zmi (e : z03) : Ow (zcs e) := by
 unfold zcs
 repeat' first
  | exact ow_M _ | exact ow_I _ | exact ow_N _ | apply Ow.app | split
theorem z8n (k : Int) : oneS (zl0 k) = true := by unfold zl0; split <;> decide
theorem ze2 (k : Int) : oneS (opW k) = true := by unfold opW; split <;> decide
theorem za5 (k : Int) : oneS (zmg k) = true := by unfold zmg; split <;> decide
theorem ow_E : ∀ (e : z03) (p : Int), Ow (sE e p)
 | ⟨k, n, s, []⟩, p => by simp only [sE]; exact zmi _
 | ⟨k, n, s, [x]⟩, p => by
  simp only [sE]
  split
  ·exact Ow.app (ow_1 (by decide)) (Ow.app (ow_D _) (ow_P (ow_E x)))
  ·exact zmi _
 | ⟨k, n, s, [l, r]⟩, p => by
  simp only [sE]
  split
  ·exact Ow.app (ow_P (ow_E l)) (Ow.app (ow_1 (z8n k)) (ow_P (ow_E r)))
  ·exact zmi _
 | ⟨k, n, s, a :: b :: c :: l⟩, p => by simp only [sE]; exact zmi _
theorem ow_C (c : z2n) (p : Int) : Ow (sC c p) := by
 unfold sC
 repeat' first
  | assumption | exact ow_N _ | exact ow_I _ | exact ow_M _ | exact ow_D _ | exact ze7 | exact ow_E _ _ | exact ow_1 (za5 _) | exact ow_1 (z8n _) | exact ow_1 (ze2 _) | exact ow_1 (by decide) | exact ow_2 (by decide) (by decide)
  | exact ow_P (ow_E _) | apply Ow.app | split
mutual
theorem ow_S : ∀ (s : z02) (b p : Int), Ow (sS s b p)
 | .mk k n t e c bo el ar, b, p => by
  have h3 : Ow (inB (fun q => sL bo q p) b) := ow_B fun q => ow_L bo q p
  have h4 : Ow (inB (fun q => sL el q p) b) := ow_B fun q => ow_L el q p
  have h5 := ow_A ar b p
  simp only [sS]
  repeat' first
   | assumption | exact ow_N _ | exact ow_I _ | exact ow_M _ | exact ow_D _ | exact ze7 | exact ow_E _ _ | exact ow_C _ _ | exact ow_1 (za5 _) | exact ow_1 (z8n _) | exact ow_1 (ze2 _) | exact ow_1 (by decide) | exact ow_2 (by decide) (by decide)
   | exact ow_P (ow_E _) | apply Ow.app | split
theorem ow_L : ∀ (l : List z02) (b p : Int), Ow (sL l b p)
 | [], b, p => by simp only [sL]; exact ze7
 | s :: r, b, p => by simp only [sL]; exact Ow.app (ow_S s b p) (ow_L r b p)
theorem ow_A : ∀ (l : List z0n) (b p : Int), Ow (sA l b p)
 | [], b, p => by simp only [sA]; exact ze7
 | .mk t v bo :: r, b, p => by
  have h3 : Ow (inB (fun q => sL bo q p) b) := ow_B fun q => ow_L bo q p
  simp only [sA]
  have h4 := ow_A r b p
  repeat' first
   | assumption | exact ow_N _ | exact ow_I _ | exact ow_M _ | exact ow_D _ | exact ze7 | exact ow_E _ _ | exact ow_C _ _ | exact ow_1 (za5 _) | exact ow_1 (z8n _) | exact ow_1 (ze2 _) | exact ow_1 (by decide) | exact ow_2 (by decide) (by decide)
   | exact ow_P (ow_E _) | apply Ow.app | split
end
theorem zgt {β : Type} {g : Nat → β → Wr} (h : ∀ i x, Ow (g i x)) : ∀ (l : List β) (i : Nat), Ow (z6n g i l)
 | [], i => by simp only [z6n]; exact ze7
 | x :: r, i => by simp only [z6n]; exact Ow.app (h i x) (zgt h r (i + 1))
theorem z05m (i : Nat) (t : ByteArray) : Ow (wVar i t) := by
 unfold wVar
 repeat' first
  | assumption | exact ow_N _ | exact ow_I _ | exact ow_M _ | exact ow_D _ | exact ze7 | exact ow_E _ _ | exact ow_C _ _ | exact ow_1 (za5 _) | exact ow_1 (z8n _) | exact ow_1 (ze2 _) | exact ow_1 (by decide) | exact ow_2 (by decide) (by decide)
  | exact ow_P (ow_E _) | apply Ow.app | split
theorem z07z (i : Nat) (t : z35) : Ow (zhk i t) := by
 unfold zhk
 repeat' first
  | assumption | exact ow_N _ | exact ow_I _ | exact ow_M _ | exact ow_D _ | exact ze7 | exact ow_E _ _ | exact ow_C _ _ | exact ow_1 (za5 _) | exact ow_1 (z8n _) | exact ow_1 (ze2 _) | exact ow_1 (by decide) | exact ow_2 (by decide) (by decide)
  | exact ow_P (ow_E _) | apply Ow.app | split
theorem z080 (p : z2d) : Ow (sP p) := by
 have h1 := zgt z05m p.Vars 0
 have h2 := ow_L p.Body 0 0
 unfold sP
 repeat' first
  | assumption | exact ow_N _ | exact ow_I _ | exact ow_M _ | exact ow_D _ | exact ze7 | exact ow_E _ _ | exact ow_C _ _ | exact ow_1 (za5 _) | exact ow_1 (z8n _) | exact ow_1 (ze2 _) | exact ow_1 (by decide) | exact ow_2 (by decide) (by decide)
  | exact ow_P (ow_E _) | apply Ow.app | split
theorem z081 (r : z2c) : Ow (sR r) := by
 have h1 := zgt z07z r.Moves 0
 unfold sR
 repeat' first
  | assumption | exact ow_N _ | exact ow_I _ | exact ow_M _ | exact ow_D _ | exact ze7 | exact ow_E _ _ | exact ow_C _ _ | exact ow_1 (za5 _) | exact ow_1 (z8n _) | exact ow_1 (ze2 _) | exact ow_1 (by decide) | exact ow_2 (by decide) (by decide)
  | exact ow_P (ow_E _) | apply Ow.app | split
theorem z05n (i : Nat) (t : ByteArray) : Ow (wTag i t) := by
 unfold wTag
 repeat' first
  | assumption | exact ow_N _ | exact ow_I _ | exact ow_M _ | exact ow_D _ | exact ze7 | exact ow_E _ _ | exact ow_C _ _ | exact ow_1 (za5 _) | exact ow_1 (z8n _) | exact ow_1 (ze2 _) | exact ow_1 (by decide) | exact ow_2 (by decide) (by decide)
  | exact ow_P (ow_E _) | apply Ow.app | split
theorem z082 (c : z24) : Ow (sCh c) := by
 have h1 := zgt z05n c.Tags 0
 unfold sCh
 repeat' first
  | assumption | exact ow_N _ | exact ow_I _ | exact ow_M _ | exact ow_D _ | exact ze7 | exact ow_E _ _ | exact ow_C _ _ | exact ow_1 (za5 _) | exact ow_1 (z8n _) | exact ow_1 (ze2 _) | exact ow_1 (by decide) | exact ow_2 (by decide) (by decide)
  | exact ow_P (ow_E _) | apply Ow.app | split
theorem z05o (s : z18) : Ow (sSys s) := by
 unfold sSys
 exact Ow.app (zgt (fun _ => z082) _ _) (Ow.app (zgt (fun _ => z081) _ _) (zgt (fun _ => z080) _ _))
end Go.Proofs.YtokjbpmjdcbogaaGreatDoor.Abs.Wri
/- With more fuel the same is read; reading told without fuel. -/
namespace Go.Proofs.YtokjbpmjdcbogaaGreatDoor.Abs.Par
open Go Go.RowKit Wri
set_option linter.unusedVariables false
set_option linter.unusedSimpArgs false
theorem bind_mono {α β : Type} {o o' : Rs α} {k k' : α → List Tok → Rs β} (h : o.bind k ≠ .out) (h1 : o ≠ .out → o' = o) (h2 : ∀ v r, k v r ≠ .out → k' v r = k v r) : o'.bind k' = o.bind k := by
 cases o with
 | ok v r => rw [h1 (by simp)]; exact h2 v r h
 | er c p => rw [h1 (by simp)]; rfl
 | out => exact absurd rfl h
structure Mo (L : Int) (f g : Nat) : Prop where
 fac : ∀ d ts, z5q L f d ts ≠ .out → z5q L g d ts = z5q L f d ts
 mul : ∀ d e ts, sMul L f d e ts ≠ .out → sMul L g d e ts = sMul L f d e ts
 term : ∀ d ts, zdg L f d ts ≠ .out → zdg L g d ts = zdg L f d ts
 add : ∀ d e ts, sAdd L f d e ts ≠ .out → sAdd L g d e ts = sAdd L f d e ts
 exp : ∀ d ts, zdh L f d ts ≠ .out → zdh L g d ts = zdh L f d ts
theorem mo (L : Int) : ∀ f g, f ≤ g → Mo L f g := by
 intro f
 induction f with
 | zero => intro g _; exact ⟨fun d ts h => (h (by simp only [z5q])).elim, fun d e ts h => (h (by simp only [sMul])).elim, fun d ts h => (h (by simp only [zdg])).elim, fun d e ts h => (h (by simp only [sAdd])).elim, fun d ts h => (h (by simp only [zdh])).elim⟩
 | succ f ih =>
  intro g hg
  cases g with
  | zero => omega
  | succ g =>
   have ih := ih g (by omega)
   refine ⟨fun d ts h => ?_, fun d e ts h => ?_, fun d ts h => ?_, fun d e ts h => ?_, fun d ts h => ?_⟩
   ·simp only [z5q] at h ⊢
    by_cases h1 : z2m (ByteArray.mk #[45]) ts = true
    ·rw [if_pos h1, if_pos h1]; rw [if_pos h1] at h
     by_cases h2 : d = 24
     ·rw [if_pos h2, if_pos h2]
     ·rw [if_neg h2, if_neg h2]; rw [if_neg h2] at h
      exact bind_mono h (ih.fac _ _) (fun v r _ => rfl)
    ·rw [if_neg h1, if_neg h1]; rw [if_neg h1] at h
     by_cases h1 : z2m (ByteArray.mk #[40]) ts = true
     ·rw [if_pos h1, if_pos h1]; rw [if_pos h1] at h
      by_cases h2 : d = 24
      ·rw [if_pos h2, if_pos h2]
      ·rw [if_neg h2, if_neg h2]; rw [if_neg h2] at h
       exact bind_mono h (ih.exp _ _) (fun v r _ => rfl)
     ·rw [if_neg h1, if_neg h1]
   ·simp only [sMul] at h ⊢
    cases hj : z4h mulS ts with
    | none => rfl
    | some j => rw [hj] at h; exact bind_mono h (ih.fac _ _) (fun v r hk => ih.mul _ _ _ hk)
   ·simp only [zdg] at h ⊢
    exact bind_mono h (ih.fac _ _) (fun v r hk => ih.mul _ _ _ hk)
   ·simp only [sAdd] at h ⊢
    cases hj : z4h addS ts with
    | none => rfl
    | some j => rw [hj] at h; exact bind_mono h (ih.term _ _) (fun v r hk => ih.add _ _ _ hk)
   ·simp only [zdh] at h ⊢
    exact bind_mono h (ih.term _ _) (fun v r hk => ih.add _ _ _ hk)
structure MoS (L : Int) (f g : Nat) : Prop where
 stmts : ∀ i ts, z7u L f i ts ≠ .out → z7u L g i ts = z7u L f i ts
 stmt : ∀ i ts, z8o L f i ts ≠ some .out → z8o L g i ts = z8o L f i ts
 arm : ∀ i ts, sArm L f i ts ≠ .out → sArm L g i ts = sArm L f i ts
 arms : ∀ i ts, zct L f i ts ≠ .out → zct L g i ts = zct L f i ts
 block : ∀ i ts, z8d L f i ts ≠ .out → z8d L g i ts = z8d L f i ts
theorem zql {α : Type} {x : Rs α} (h : some x ≠ some .out) : x ≠ .out := fun e => h (by rw [e])
theorem moS (L : Int) : ∀ f g, f ≤ g → MoS L f g := by
 intro f
 induction f with
 | zero => intro g _; exact ⟨fun d ts h => (h (by simp only [z7u])).elim, fun d ts h => (h (by simp only [z8o])).elim, fun d ts h => (h (by simp only [sArm])).elim, fun d ts h => (h (by simp only [zct])).elim, fun d ts h => (h (by simp only [z8d])).elim⟩
 | succ f ih =>
  intro g hg
  cases g with
  | zero => omega
  | succ g =>
   have ih := ih g (by omega)
   refine ⟨fun i ts h => ?_, fun i ts h => ?_, fun i ts h => ?_, fun i ts h => ?_, fun i ts h => ?_⟩
   ·simp only [z7u] at h ⊢
    have hs : z8o L f i ts ≠ some .out := fun e => by rw [e] at h; exact h rfl
    rw [ih.stmt i ts hs]
    cases ho : z8o L f i ts with
    | none => rfl
    | some o => rw [ho] at h; exact bind_mono h (fun _ => rfl) (fun v r hk => bind_mono hk (ih.stmts _ _) (fun _ _ _ => rfl))
   ·simp only [z8o] at h ⊢
    by_cases h1 : z2m (ByteArray.mk #[105, 102]) ts = true
    ·rw [if_pos h1, if_pos h1]; rw [if_pos h1] at h
     refine congrArg some (bind_mono (zql h) (fun _ => rfl) fun c r1 h2 => bind_mono h2 (ih.block _ _) fun b r2 h3 => ?_)
     by_cases h4 : z2m (ByteArray.mk #[101, 108, 115, 101]) r2 = true
     ·rw [if_pos h4, if_pos h4]; rw [if_pos h4] at h3
      exact bind_mono h3 (ih.block _ _) (fun _ _ _ => rfl)
     ·rw [if_neg h4, if_neg h4]
    rw [if_neg h1, if_neg h1]; rw [if_neg h1] at h
    by_cases h1 : z2m (ByteArray.mk #[119, 104, 105, 108, 101]) ts = true
    ·rw [if_pos h1, if_pos h1]; rw [if_pos h1] at h
     exact congrArg some (bind_mono (zql h) (fun _ => rfl) fun c r1 h2 => bind_mono h2 (ih.block _ _) fun b r2 h3 => rfl)
    rw [if_neg h1, if_neg h1]; rw [if_neg h1] at h
    by_cases h1 : z2m (ByteArray.mk #[115, 101, 110, 100]) ts = true
    ·rw [if_pos h1, if_pos h1]
    rw [if_neg h1, if_neg h1]; rw [if_neg h1] at h
    by_cases h1 : z2m (ByteArray.mk #[114, 101, 99, 118]) ts = true
    ·rw [if_pos h1, if_pos h1]; rw [if_pos h1] at h
     exact congrArg some (bind_mono (zql h) (fun _ => rfl) fun c r1 h2 => bind_mono h2 (fun _ => rfl) fun b r2 h3 => bind_mono h3 (ih.arm _ _) fun _ _ h4 => bind_mono h4 (ih.arms _ _) fun _ _ _ => rfl)
    rw [if_neg h1, if_neg h1]
   ·simp only [sArm] at h ⊢
    exact bind_mono h (fun _ => rfl) fun _ _ h => bind_mono h (fun _ => rfl) fun _ _ h => bind_mono h (fun _ => rfl) fun _ _ h => bind_mono h (fun _ => rfl) fun _ _ h => bind_mono h (ih.block _ _) fun _ _ _ => rfl
   ·simp only [zct] at h ⊢
    by_cases h1 : z2m (ByteArray.mk #[125]) ts = true
    ·rw [if_pos h1, if_pos h1]
    rw [if_neg h1, if_neg h1]; rw [if_neg h1] at h
    exact bind_mono h (ih.arm _ _) fun _ _ h => bind_mono h (ih.arms _ _) fun _ _ _ => rfl
   ·simp only [z8d] at h ⊢
    by_cases h1 : (z2m (ByteArray.mk #[123]) ts && decide (i = 24)) = true
    ·rw [if_pos h1, if_pos h1]
    rw [if_neg h1, if_neg h1]; rw [if_neg h1] at h
    exact bind_mono h (fun _ => rfl) fun _ _ h => bind_mono h (ih.stmts _ _) fun _ _ _ => rfl
/-! ### Reading, told without fuel -/
section
variable (L : Int)
def BF (d : Nat) (ts : List Tok) (e : z09) (r : List Tok) : Prop := ∃ f0, ∀ f, f0 ≤ f → z5q L f d ts = .ok e r
def BM (d : Nat) (a : z09) (ts : List Tok) (e : z09) (r : List Tok) : Prop := ∃ f0, ∀ f, f0 ≤ f → sMul L f d a ts = .ok e r
def BT (d : Nat) (ts : List Tok) (e : z09) (r : List Tok) : Prop := ∃ f0, ∀ f, f0 ≤ f → zdg L f d ts = .ok e r
def BA (d : Nat) (a : z09) (ts : List Tok) (e : z09) (r : List Tok) : Prop := ∃ f0, ∀ f, f0 ≤ f → sAdd L f d a ts = .ok e r
def BE (d : Nat) (ts : List Tok) (e : z09) (r : List Tok) : Prop := ∃ f0, ∀ f, f0 ≤ f → zdh L f d ts = .ok e r
end
section
variable {L : Int} {d : Nat} {ts r r' : List Tok} {a e e' : z09}
theorem BE.eX (h : BE L 0 ts e r) : eX L ts = .ok e r := by
 obtain ⟨f0, h⟩ := h
 have := (mo L (4 * ts.length + 3) (max f0 (4 * ts.length + 3)) (Nat.le_max_right _ _)).exp 0 ts zwq
 unfold Par.eX
 rw [← this]
 exact h _ (Nat.le_max_left _ _)
theorem z05p {t : Tok} (hk : t.kind = 2) : BF L d (t :: r) ⟨1, (t.num : Int), nB, []⟩ r := ⟨1, fun f hf => by
 cases f with
 | zero => omega
 | succ f => simp [z5q, z2m, sOf, sNum, hk, Rs.bind]⟩
theorem z02y {t : Tok} (hk : t.kind = 1) : BF L d (t :: r) ⟨2, 0, ⟨t.text.toArray⟩, []⟩ r := ⟨1, fun f hf => by
 cases f with
 | zero => omega
 | succ f => simp [z5q, z2m, sOf, zap, hk, Rs.bind]⟩
theorem z05q (h : z2m (ByteArray.mk #[45]) ts = true) (hd : d ≠ 24) (h2 : BF L (d + 1) ts.tail e r) : BF L d ts ⟨3, 0, nB, [e]⟩ r := by
 obtain ⟨f0, h2⟩ := h2
 refine ⟨f0 + 1, fun f hf => ?_⟩
 cases f with
 | zero => omega
 | succ f =>
  simp only [z5q]
  rw [if_pos h, if_neg hd, h2 f (by omega)]
  rfl
theorem z05r (h0 : z2m (ByteArray.mk #[45]) ts = false) (h : z2m (ByteArray.mk #[40]) ts = true) (hd : d ≠ 24) (h2 : BE L (d + 1) ts.tail e r) (h3 : z2m (ByteArray.mk #[41]) r = true) : BF L d ts e r.tail := by
 obtain ⟨f0, h2⟩ := h2
 refine ⟨f0 + 1, fun f hf => ?_⟩
 cases f with
 | zero => omega
 | succ f =>
  simp only [z5q]
  rw [if_neg (by simp [h0]), if_pos h, if_neg hd, h2 f (by omega)]
  simp only [Rs.bind, z7a, h3, if_true]
theorem zqm (h : z4h mulS ts = none) : BM L d a ts a ts := ⟨1, fun f hf => by
 cases f with
 | zero => omega
 | succ f => simp only [sMul, h]⟩
theorem z02z {j : Nat} {k : z09} (h : z4h mulS ts = some j) (h1 : BF L d ts.tail k r) (h2 : BM L d ⟨6 + (j : Int), 0, nB, [a, k]⟩ r e' r') : BM L d a ts e' r' := by
 obtain ⟨f1, h1⟩ := h1
 obtain ⟨f2, h2⟩ := h2
 refine ⟨f1 + f2 + 1, fun f hf => ?_⟩
 cases f with
 | zero => omega
 | succ f =>
  simp only [sMul, h]
  rw [h1 f (by omega)]
  exact h2 f (by omega)
theorem bt (h1 : BF L d ts e r) (h2 : BM L d e r e' r') : BT L d ts e' r' := by
 obtain ⟨f1, h1⟩ := h1
 obtain ⟨f2, h2⟩ := h2
 refine ⟨f1 + f2 + 1, fun f hf => ?_⟩
 cases f with
 | zero => omega
 | succ f =>
  simp only [zdg]
  rw [h1 f (by omega)]
  exact h2 f (by omega)
theorem zwr (h : z4h addS ts = none) : BA L d a ts a ts := ⟨1, fun f hf => by
 cases f with
 | zero => omega
 | succ f => simp only [sAdd, h]⟩
theorem z030 {j : Nat} {k : z09} (h : z4h addS ts = some j) (h1 : BT L d ts.tail k r) (h2 : BA L d ⟨4 + (j : Int), 0, nB, [a, k]⟩ r e' r') : BA L d a ts e' r' := by
 obtain ⟨f1, h1⟩ := h1
 obtain ⟨f2, h2⟩ := h2
 refine ⟨f1 + f2 + 1, fun f hf => ?_⟩
 cases f with
 | zero => omega
 | succ f =>
  simp only [sAdd, h]
  rw [h1 f (by omega)]
  exact h2 f (by omega)
theorem be (h1 : BT L d ts e r) (h2 : BA L d e r e' r') : BE L d ts e' r' := by
 obtain ⟨f1, h1⟩ := h1
 obtain ⟨f2, h2⟩ := h2
 refine ⟨f1 + f2 + 1, fun f hf => ?_⟩
 cases f with
 | zero => omega
 | succ f =>
  simp only [zdh]
  rw [h1 f (by omega)]
  exact h2 f (by omega)
end
section
variable (L : Int)
def BSs (i : Nat) (ts : List Tok) (l : List z05) (r : List Tok) : Prop := ∃ f0, ∀ f, f0 ≤ f → z7u L f i ts = .ok l r
def BS1 (i : Nat) (ts : List Tok) (s : z05) (r : List Tok) : Prop := ∃ f0, ∀ f, f0 ≤ f → z8o L f i ts = some (.ok s r)
def BAr (i : Nat) (ts : List Tok) (s : z2h) (r : List Tok) : Prop := ∃ f0, ∀ f, f0 ≤ f → sArm L f i ts = .ok s r
def BAs (i : Nat) (ts : List Tok) (s : List z2h) (r : List Tok) : Prop := ∃ f0, ∀ f, f0 ≤ f → zct L f i ts = .ok s r
def BB (i : Nat) (ts : List Tok) (s : List z05) (r : List Tok) : Prop := ∃ f0, ∀ f, f0 ≤ f → z8d L f i ts = .ok s r
end
section
variable {L : Int} {i : Nat} {ts r r' : List Tok}
theorem BSs.body {l : List z05} (h : BSs L 0 ts l r) (hne : zom L ts ≠ .out) : zom L ts = .ok l r := by
 obtain ⟨f0, h⟩ := h
 have := (moS L (3 * ts.length + 2) (max f0 (3 * ts.length + 2)) (Nat.le_max_right _ _)).stmts 0 ts hne
 unfold zom
 rw [← this]
 exact h _ (Nat.le_max_left _ _)
theorem z031 (h : ∀ f, z8o L (f + 1) i ts = none) : BSs L i ts [] ts := ⟨2, fun f hf => by
 cases f with
 | zero => omega
 | succ f => cases f with
  | zero => omega
  | succ f => simp only [z7u, h]⟩
theorem zz7 {s : z05} {l : List z05} (h1 : BS1 L i ts s r) (h2 : BSs L i r l r') : BSs L i ts (s :: l) r' := by
 obtain ⟨f1, h1⟩ := h1
 obtain ⟨f2, h2⟩ := h2
 refine ⟨f1 + f2 + 1, fun f hf => ?_⟩
 cases f with
 | zero => omega
 | succ f =>
  simp only [z7u]
  rw [h1 f (by omega)]
  simp only [Rs.bind]
  rw [h2 f (by omega)]
theorem z032 (h : z2m (ByteArray.mk #[125]) ts = true) : BAs L i ts [] ts := ⟨1, fun f hf => by
 cases f with
 | zero => omega
 | succ f => simp only [zct, h, if_true]⟩
theorem zz8 {s : z2h} {l : List z2h} (h : z2m (ByteArray.mk #[125]) ts = false) (h1 : BAr L i ts s r) (h2 : BAs L i r l r') : BAs L i ts (s :: l) r' := by
 obtain ⟨f1, h1⟩ := h1
 obtain ⟨f2, h2⟩ := h2
 refine ⟨f1 + f2 + 1, fun f hf => ?_⟩
 cases f with
 | zero => omega
 | succ f =>
  simp only [zct, h, Bool.false_eq_true, if_false]
  rw [h1 f (by omega)]
  simp only [Rs.bind]
  rw [h2 f (by omega)]
end
end Go.Proofs.YtokjbpmjdcbogaaGreatDoor.Abs.Par
/- What is written is parsed back: words and expressions. -/
namespace Go.Proofs.YtokjbpmjdcbogaaGreatDoor.Abs.Par
open Go Go.RowKit Wri
set_option linter.unusedVariables false
set_option linter.unusedSimpArgs false
/-! ### Words and what they are read as -/
def IsT (w : ByteArray) (t : Tok) : Prop := t.text = w.data.toList ∧ ∃ x, oneW w.data.toList x ∧ t.kind = x.kind ∧ t.num = x.num
def isK (w : ByteArray) : Bool := match zdf w.data.toList with | .ok x => decide (x.kind ≥ 3) | .error _ => false
def wIdx : List ByteArray → ByteArray → Option Nat
 | [], _ => none
 | v :: l, w => if w.data.toList == v.data.toList then some 0 else (wIdx l w).map (· + 1)
section
variable {w w' : ByteArray} {t : Tok} {r : List Tok}
theorem IsT.kind (h : IsT w t) (hk : isK w = true) : t.kind ≥ 3 := by
 obtain ⟨h1, x, ⟨h2, _⟩, h3, _⟩ := h
 unfold isK at hk; rw [h2] at hk
 rw [h3]; simpa using hk
theorem IsT.sees (h : IsT w t) (hk : isK w = true) : z2m w (t :: r) = true := by
 have := h.kind hk
 simp [z2m, h.1, this]
theorem IsT.no (h : IsT w t) (hne : (w.data.toList == w'.data.toList) = false) : z2m w' (t :: r) = false := by
 simp only [z2m, h.1, hne, Bool.and_false]
theorem IsT.which (h : IsT w t) (hk : isK w = true) : ∀ ws, z4h ws (t :: r) = wIdx ws w
 | [] => rfl
 | v :: l => by
  have := h.kind hk
  have e : decide (t.kind ≥ 3) = true := by simpa using this
  simp only [z4h, wIdx, IsT.which h hk l, z2m, h.1, e, Bool.true_and]
theorem IsT.of (h : IsT w t) (hk : isK w = true) : sOf 1 (t :: r) = false := by
 have := h.kind hk
 simp only [sOf, beq_eq_false_iff_ne]; omega
theorem IsT.must {L : Int} (h : IsT w t) (hk : isK w = true) : z7a L w (t :: r) = .ok () r := by
 unfold z7a; rw [if_pos (h.sees hk)]; rfl
theorem zqn (h : t.kind = 1) : z2m w (t :: r) = false := by simp [z2m, h]
theorem z05s (h : t.kind = 2) : z2m w (t :: r) = false := by simp [z2m, h]
theorem zws {ts : List Tok} (h : z2m w ts = true) : sOf 1 ts = false := by
 cases ts with
 | nil => cases h
 | cons t r =>
  simp only [z2m, Bool.and_eq_true, decide_eq_true_eq] at h
  simp only [sOf, beq_eq_false_iff_ne]; omega
theorem zgu {ts : List Tok} (h : z2m w ts = true) (hne : (w.data.toList == w'.data.toList) = false) : z2m w' ts = false := by
 cases ts with
 | nil => rfl
 | cons t r =>
  simp only [z2m, Bool.and_eq_true, beq_iff_eq] at h
  simp only [z2m, h.2, hne, Bool.and_false]
theorem z8h {L : Int} {s : ByteArray} (h : t.kind = 1) (ht : t.text = s.data.toList) : zap L (t :: r) = .ok s r := by
 simp [zap, h, ht]
theorem zwt {L : Int} {n : Int} (h : t.kind = 2) (ht : (t.num : Int) = n) : sNum L (t :: r) = .ok n r := by
 simp [sNum, h, ht]
end
def Rw : List ByteArray → List Tok → List Tok → Prop
 | [], ts, r => ts = r
 | w :: ws, ts, r => ∃ t ts', ts = t :: ts' ∧ IsT w t ∧ Rw ws ts' r
theorem Rw.app : ∀ {a b : List ByteArray} {ts r : List Tok}, Rw (a ++ b) ts r → ∃ m, Rw a ts m ∧ Rw b m r
 | [], b, ts, r, h => ⟨ts, rfl, h⟩
 | w :: a, b, ts, r, h => by
  obtain ⟨t, ts', e, ht, h⟩ := h
  obtain ⟨m, h1, h2⟩ := Rw.app h
  exact ⟨m, ⟨t, ts', e, ht, h1⟩, h2⟩
/-- These words may be, and so they are read. -/
def G (x : Wr) (ts r : List Tok) : Prop := x.bad = false ∧ x.dp = false ∧ Rw x.ws ts r
section
variable {x y : Wr} {ts r : List Tok}
theorem G.app (h : G (x ++ y) ts r) : ∃ m, G x ts m ∧ G y m r := by
 obtain ⟨h1, h2, h3⟩ := h
 simp only [Wr.bad_app, Wr.dp_app, Bool.or_eq_false_iff, Wr.ws_app] at h1 h2 h3
 obtain ⟨m, h4, h5⟩ := h3.app
 exact ⟨m, ⟨h1.1, h2.1, h4⟩, ⟨h1.2, h2.2, h5⟩⟩
theorem G.w {w : ByteArray} (h : G (Wri.wW [w]) ts r) : ∃ t, ts = t :: r ∧ IsT w t := by
 obtain ⟨_, _, t, ts', e, ht, h⟩ := h
 have h : ts' = r := h
 subst h
 exact ⟨t, e, ht⟩
theorem G.w2 {w v : ByteArray} (h : G (Wri.wW [w, v]) ts r) : ∃ t t', ts = t :: t' :: r ∧ IsT w t ∧ IsT v t' := by
 obtain ⟨_, _, t, ts', e, ht, t', ts2, e', ht', h⟩ := h
 have h : ts2 = r := h
 subst h; subst e'
 exact ⟨t, t', e, ht, ht'⟩
theorem G.d {q : Int} (h : G (wD q) ts r) : q ≤ 24 ∧ ts = r := by
 obtain ⟨_, h2, h3⟩ := h
 simp only [wD, decide_eq_false_iff_not] at h2
 exact ⟨by omega, h3⟩
theorem G.m {b : Bool} (h : G (Wri.wM b) ts r) : b = true ∧ ts = r := by
 obtain ⟨h1, _, h3⟩ := h
 simp only [Wri.wM, Bool.not_eq_false'] at h1
 exact ⟨h1, h3⟩
theorem G.nil (h : G Wr.nil ts r) : ts = r := h.2.2
theorem G.n {s : ByteArray} (h : G (wN s) ts r) : ∃ t, ts = t :: r ∧ t.kind = 1 ∧ t.text = s.data.toList := by
 obtain ⟨h1, _, t, ts', e, ⟨ht, x, ⟨hx, _⟩, hk, _⟩, h3⟩ := h
 have h3 : ts' = r := h3
 subst h3
 simp only [wN, Bool.not_eq_false'] at h1
 obtain ⟨y, ⟨hy, _⟩, hk', _⟩ := zs9 h1
 rw [hx] at hy
 injection hy with hy
 subst hy
 exact ⟨t, e, by rw [hk, hk'], ht⟩
theorem G.i {n : Int} (h : G (wI n) ts r) : ∃ t, ts = t :: r ∧ t.kind = 2 ∧ (t.num : Int) = n := by
 obtain ⟨h1, _, t, ts', e, ⟨ht, x, ⟨hx, _⟩, hk, hn⟩, h3⟩ := h
 have h3 : ts' = r := h3
 subst h3
 simp only [wI, Bool.not_eq_false'] at h1
 obtain ⟨⟨hy, _⟩, _⟩ := zmh h1
 rw [hx] at hy
 injection hy with hy
 subst hy
 refine ⟨t, e, hk, ?_⟩
 unfold za0 at h1
 simp only [Bool.and_eq_true, decide_eq_true_eq] at h1
 rw [hn]
 show ((n.toNat : Nat) : Int) = n
 omega
end
/-! ### Expressions -/
def bkE : z03 → z09
 | ⟨k, n, s, []⟩ => if k == 1 then ⟨1, n, nB, []⟩ else ⟨2, 0, s, []⟩
 | ⟨k, n, s, [x]⟩ => ⟨3, 0, nB, [bkE x]⟩
 | ⟨k, n, s, [l, r]⟩ => ⟨k, 0, nB, [bkE l, bkE r]⟩
 | ⟨k, n, s, a :: b :: c :: l⟩ => zE
structure RtE (L : Int) (e : z03) : Prop where
 fac : z6o e.Kind = false → ∀ (d : Nat) ts r, G (sE e (d : Int)) ts r → BF L d ts (bkE e) r
 term : sumK e.Kind = false → ∀ (d : Nat) ts r e' r', G (sE e (d : Int)) ts r → BM L d (bkE e) r e' r' → BT L d ts e' r'
 exp : ∀ (d : Nat) ts r e' r', G (sE e (d : Int)) ts r → z4h mulS r = none → BA L d (bkE e) r e' r' → BE L d ts e' r'
section
variable {L : Int} {e : z03}
theorem RtE.of_fac (h : ∀ (d : Nat) ts r, G (sE e (d : Int)) ts r → BF L d ts (bkE e) r) : RtE L e :=
 ⟨fun _ => h, fun _ d ts r e' r' hg hm => bt (h d ts r hg) hm, fun d ts r e' r' hg hn ha => be (bt (h d ts r hg) (zqm hn)) ha⟩
theorem RtE.of_term (hp : z6o e.Kind = true) (h : ∀ (d : Nat) ts r e' r', G (sE e (d : Int)) ts r → BM L d (bkE e) r e' r' → BT L d ts e' r') : RtE L e :=
 ⟨fun h' => absurd (hp.symm.trans h') (by decide), fun _ => h, fun d ts r e' r' hg hn ha => be (h d ts r _ _ hg (zqm hn)) ha⟩
theorem RtE.of_exp (hp : z6o e.Kind = true) (hs : sumK e.Kind = true) (h : ∀ (d : Nat) ts r e' r', G (sE e (d : Int)) ts r → z4h mulS r = none → BA L d (bkE e) r e' r' → BE L d ts e' r') : RtE L e :=
 ⟨fun h' => absurd (hp.symm.trans h') (by decide), fun h' => absurd (hs.symm.trans h') (by decide), h⟩
theorem z00z (ih : RtE L e) {d : Nat} {ts r : List Tok} (h : G (inP true (sE e) (d : Int)) ts r) : BF L d ts (bkE e) r := by
 simp only [inP, if_true] at h
 replace h := h.app; obtain ⟨m1, h1, h⟩ := h
 obtain ⟨t, rfl, ht⟩ := h1.w
 replace h := h.app; obtain ⟨m2, h2, h⟩ := h
 obtain ⟨hd, rfl⟩ := h2.d
 obtain ⟨m3, h3, h4⟩ := h.app
 obtain ⟨t', rfl, ht'⟩ := h4.w
 have h3 : G (sE e ((d + 1 : Nat) : Int)) m1 (t' :: r) := by simpa using h3
 exact z05r (ht.no (by decide)) (ht.sees (by decide)) (by omega) (ih.exp (d + 1) _ _ _ _ h3 (by rw [ht'.which (by decide)]; decide) (zwr (by rw [ht'.which (by decide)]; decide))) (ht'.sees (by decide))
theorem zwu (ih : RtE L e) {m : Bool} (hm : m = false → z6o e.Kind = false) {d : Nat} {ts r : List Tok} (h : G (inP m (sE e) (d : Int)) ts r) : BF L d ts (bkE e) r := by
 cases m with
 | true => exact z00z ih h
 | false => exact ih.fac (hm rfl) d ts r h
theorem zsc (ih : RtE L e) {m : Bool} (hm : m = false → sumK e.Kind = false) {d : Nat} {ts r r' : List Tok} {e' : z09} (h : G (inP m (sE e) (d : Int)) ts r) (hb : BM L d (bkE e) r e' r') : BT L d ts e' r' := by
 cases m with
 | true => exact bt (z00z ih h) hb
 | false => exact ih.term (hm rfl) d ts r e' r' h hb
theorem zmj {ts r : List Tok} (h : G (zcs e) ts r) : e.Kids = [] ∧ ((e.Kind = 1 ∧ ∃ t, ts = t :: r ∧ t.kind = 2 ∧ (t.num : Int) = e.Num) ∨ (e.Kind = 2 ∧ ∃ t, ts = t :: r ∧ t.kind = 1 ∧ t.text = e.Name.data.toList)) := by
 unfold zcs at h
 obtain ⟨m, h1, h2⟩ := h.app
 obtain ⟨hk, rfl⟩ := h1.m
 refine ⟨?_, ?_⟩
 ·have : e.Kids.length = 0 := by simpa using hk
  exact List.eq_nil_of_length_eq_zero this
 ·split at h2
  ·rename_i h0
   exact .inl ⟨by simpa using h0, h2.i⟩
  ·obtain ⟨m', h3, h4⟩ := h2.app
   obtain ⟨h5, rfl⟩ := h3.m
   exact .inr ⟨by simpa using h5, h4.n⟩
theorem ztx {k : Int} (h : z6o k = true) : k = 4 ∨ k = 5 ∨ k = 6 ∨ k = 7 ∨ k = 8 := by
 unfold z6o at h
 simp only [Bool.and_eq_true, decide_eq_true_eq] at h
 omega
theorem zz9 {k : Int} {t : Tok} {m : List Tok} (hk : z6o k = true) (hs : sumK k = true) (ht : IsT (zl0 k) t) : z4h mulS (t :: m) = none ∧ ∃ j : Nat, z4h addS (t :: m) = some j ∧ 4 + (j : Int) = k := by
 rcases ztx hk with rfl | rfl | rfl | rfl | rfl
 ·exact ⟨by rw [ht.which (by decide)]; decide, 0, by rw [ht.which (by decide)]; decide, by decide⟩
 ·exact ⟨by rw [ht.which (by decide)]; decide, 1, by rw [ht.which (by decide)]; decide, by decide⟩
 all_goals exact absurd hs (by decide)
theorem zza {k : Int} {t : Tok} {m : List Tok} (hk : z6o k = true) (hs : sumK k = false) (ht : IsT (zl0 k) t) : ∃ j : Nat, z4h mulS (t :: m) = some j ∧ 6 + (j : Int) = k := by
 rcases ztx hk with rfl | rfl | rfl | rfl | rfl
 ·exact absurd hs (by decide)
 ·exact absurd hs (by decide)
 ·exact ⟨0, by rw [ht.which (by decide)]; decide, by decide⟩
 ·exact ⟨1, by rw [ht.which (by decide)]; decide, by decide⟩
 ·exact ⟨2, by rw [ht.which (by decide)]; decide, by decide⟩
end
theorem rtE (L : Int) : ∀ e, RtE L e
 | ⟨k, n, s, []⟩ => RtE.of_fac fun d ts r h => by
  simp only [sE] at h
  obtain ⟨_, ⟨h1, t, rfl, h2, h3⟩ | ⟨h1, t, rfl, h2, h3⟩⟩ := zmj h
  ·have := z05p (L := L) (d := d) (r := r) h2
   have h1 : k = 1 := h1
   have h3 : (t.num : Int) = n := h3
   subst h1
   rw [h3] at this
   simpa [bkE] using this
  ·have := z02y (L := L) (d := d) (r := r) h2
   have h1 : k = 2 := h1
   have h3 : t.text = s.data.toList := h3
   subst h1
   rw [h3] at this
   simpa [bkE] using this
 | ⟨k, n, s, [x]⟩ => RtE.of_fac fun d ts r h => by
  have ih := rtE L x
  simp only [sE] at h
  split at h
  ·replace h := h.app; obtain ⟨m, h1, h⟩ := h
   obtain ⟨t, rfl, ht⟩ := h1.w
   replace h := h.app; obtain ⟨m2, h2, h⟩ := h
   obtain ⟨hd, rfl⟩ := h2.d
   have h : G (inP (z6o x.Kind) (sE x) ((d + 1 : Nat) : Int)) m r := by simpa using h
   have := z05q (L := L) (d := d) (ts := t :: m) (ht.sees (by decide)) (by omega) (zwu ih (fun h => h) h)
   simpa [bkE] using this
  ·have := (zmj h).1
   cases this
 | ⟨k, n, s, [l, x]⟩ =>
  if hk : z6o k = true then
   if hs : sumK k = true then RtE.of_exp hk hs fun d ts r e' r' h hn ha => by
    have il := rtE L l
    have ix := rtE L x
    simp only [sE, hk, hs, if_true, Bool.not_true, Bool.false_and, Bool.or_false] at h
    obtain ⟨m, h1, h2⟩ := h.app
    obtain ⟨m2, h3, h4⟩ := h2.app
    obtain ⟨t, rfl, ht⟩ := h3.w
    obtain ⟨hm, j, hj, ej⟩ := zz9 (m := m2) hk hs ht
    have h1 : G (sE l (d : Int)) ts (t :: m2) := h1
    refine il.exp d ts _ e' r' h1 hm (z030 hj (zsc ix (fun h => h) h4 (zqm hn)) ?_)
    rw [ej]
    simpa [bkE] using ha
   else RtE.of_term hk fun d ts r e' r' h ha => by
    have il := rtE L l
    have ix := rtE L x
    have hs : sumK k = false := by simpa using hs
    simp only [sE, hk, hs, if_true, Bool.not_false, Bool.true_and] at h
    obtain ⟨m, h1, h2⟩ := h.app
    obtain ⟨m2, h3, h4⟩ := h2.app
    obtain ⟨t, rfl, ht⟩ := h3.w
    obtain ⟨j, hj, ej⟩ := zza (m := m2) hk hs ht
    refine zsc il (fun h => h) h1 (z02z hj (zwu ix (fun h => (by simpa using h : _ ∧ _).2) h4) ?_)
    rw [ej]
    simpa [bkE] using ha
  else RtE.of_fac fun d ts r h => by
   simp only [sE, hk, if_false, Bool.false_eq_true] at h
   have := (zmj h).1
   cases this
 | ⟨k, n, s, a :: b :: c :: l⟩ => RtE.of_fac fun d ts r h => by
  simp only [sE] at h
  have := (zmj h).1
  cases this
theorem rtX {L : Int} {e : z03} {ts r : List Tok} (h : G (sE e 0) ts r) (hm : z4h mulS r = none) (ha : z4h addS r = none) : eX L ts = .ok (bkE e) r :=
 ((rtE L e).exp 0 ts r _ _ h hm (zwr ha)).eX
/-! ### Comparisons -/
def bkC (c : z2n) : z3z := ⟨c.Op, bkE c.L, bkE c.R⟩
theorem z083 {k : Int} {t : Tok} {m : List Tok} (hk : opOk k = true) (ht : IsT (opW k) t) : z4h mulS (t :: m) = none ∧ z4h addS (t :: m) = none ∧ ∃ j : Nat, z4h cmpS (t :: m) = some j ∧ 1 + (j : Int) = k := by
 unfold opOk at hk
 simp only [Bool.and_eq_true, decide_eq_true_eq] at hk
 have : k = 1 ∨ k = 2 ∨ k = 3 ∨ k = 4 ∨ k = 5 ∨ k = 6 := by omega
 rcases this with rfl | rfl | rfl | rfl | rfl | rfl
 ·exact ⟨by rw [ht.which (by decide)]; decide, by rw [ht.which (by decide)]; decide, 0, by rw [ht.which (by decide)]; decide, by decide⟩
 ·exact ⟨by rw [ht.which (by decide)]; decide, by rw [ht.which (by decide)]; decide, 1, by rw [ht.which (by decide)]; decide, by decide⟩
 ·exact ⟨by rw [ht.which (by decide)]; decide, by rw [ht.which (by decide)]; decide, 2, by rw [ht.which (by decide)]; decide, by decide⟩
 ·exact ⟨by rw [ht.which (by decide)]; decide, by rw [ht.which (by decide)]; decide, 3, by rw [ht.which (by decide)]; decide, by decide⟩
 ·exact ⟨by rw [ht.which (by decide)]; decide, by rw [ht.which (by decide)]; decide, 4, by rw [ht.which (by decide)]; decide, by decide⟩
 ·exact ⟨by rw [ht.which (by decide)]; decide, by rw [ht.which (by decide)]; decide, 5, by rw [ht.which (by decide)]; decide, by decide⟩
theorem rtC {L : Int} {c : z2n} {ts r : List Tok} (h : G (sC c 0) ts r) : zid L ts = .ok (bkC c) r := by
 unfold sC at h
 replace h := h.app; obtain ⟨m1, h1, h⟩ := h
 obtain ⟨t1, rfl, q1⟩ := h1.w
 replace h := h.app; obtain ⟨m2, h2, h⟩ := h
 replace h := h.app; obtain ⟨m3, h3, h⟩ := h
 replace h := h.app; obtain ⟨m4, h4, h⟩ := h
 obtain ⟨t5, rfl, q5⟩ := h.w
 split at h3
 ·rename_i ho
  obtain ⟨t3, rfl, q3⟩ := h3.w
  obtain ⟨n1, n2, j, hj, ej⟩ := z083 (m := m3) ho q3
  unfold zid
  rw [q1.must (by decide)]
  simp only [Rs.bind]
  rw [rtX h2 n1 n2]
  simp only [hj, List.tail_cons]
  rw [rtX h4 (by rw [q5.which (by decide)]; decide) (by rw [q5.which (by decide)]; decide)]
  simp only [q5.must (L := L) (by decide), ej]
  rfl
 ·cases h3.m.1
end Go.Proofs.YtokjbpmjdcbogaaGreatDoor.Abs.Par
/- What is written is parsed back: statements. -/
namespace Go.Proofs.YtokjbpmjdcbogaaGreatDoor.Abs.Par
open Go Go.RowKit Wri
set_option linter.unusedVariables false
set_option linter.unusedSimpArgs false
mutual
def bkS : z02 → z05
 | .mk k n t e c bo el ar =>
  if k == 1 then .mk 1 n nB (bkE e) zC [] [] []
  else if k == 2 then .mk 2 nB nB zE (bkC c) (bkL bo) (bkL el) []
  else if k == 3 then .mk 3 nB nB zE (bkC c) (bkL bo) [] []
  else if k == 4 then .mk 4 n t (bkE e) zC [] [] []
  else if k == 5 then .mk 5 n nB zE zC [] [] (bkA ar)
  else if k == 6 then .mk 6 nB nB zE (bkC c) [] [] []
  else .mk 7 n nB zE zC [] [] []
def bkL : List z02 → List z05
 | [] => []
 | s :: r => bkS s :: bkL r
def bkA : List z0n → List z2h
 | [] => []
 | .mk t v b :: r => .mk t v (bkL b) :: bkA r
end
/-! ### What a statement begins with -/
def kwS : List ByteArray := [(ByteArray.mk #[105, 102]), (ByteArray.mk #[119, 104, 105, 108, 101]), (ByteArray.mk #[115, 101, 110, 100]), (ByteArray.mk #[114, 101, 99, 118]), (ByteArray.mk #[97, 115, 115, 101, 114, 116]), (ByteArray.mk #[105, 110, 112, 117, 116])]
theorem z05t {s : z02} {b p : Int} {ts r : List Tok} (h : G (sS s b p) ts r) : ∃ t ts', ts = t :: ts' ∧ (t.kind = 1 ∨ ∃ w ∈ kwS, IsT w t) := by
 obtain ⟨k, n, tg, e, c, bo, el, ar⟩ := s
 simp only [sS] at h
 split at h
 ·replace h := h.app; obtain ⟨m, h1, h⟩ := h
  obtain ⟨t, rfl, h2, _⟩ := h1.n
  exact ⟨t, m, rfl, .inl h2⟩
 split at h
 ·replace h := h.app; obtain ⟨m, h1, h⟩ := h
  obtain ⟨t, rfl, h2⟩ := h1.w
  exact ⟨t, m, rfl, .inr ⟨_, by simp [kwS], h2⟩⟩
 split at h
 ·replace h := h.app; obtain ⟨m, h1, h⟩ := h
  obtain ⟨t, rfl, h2⟩ := h1.w
  exact ⟨t, m, rfl, .inr ⟨_, by simp [kwS], h2⟩⟩
 split at h
 ·replace h := h.app; obtain ⟨m, h1, h⟩ := h
  obtain ⟨t, rfl, h2⟩ := h1.w
  exact ⟨t, m, rfl, .inr ⟨_, by simp [kwS], h2⟩⟩
 split at h
 ·replace h := h.app; obtain ⟨m, h1, h⟩ := h
  obtain ⟨t, rfl, h2⟩ := h1.w
  exact ⟨t, m, rfl, .inr ⟨_, by simp [kwS], h2⟩⟩
 split at h
 ·replace h := h.app; obtain ⟨m, h1, h⟩ := h
  obtain ⟨t, rfl, h2⟩ := h1.w
  exact ⟨t, m, rfl, .inr ⟨_, by simp [kwS], h2⟩⟩
 split at h
 ·replace h := h.app; obtain ⟨m, h1, h⟩ := h
  obtain ⟨t, rfl, h2⟩ := h1.w
  exact ⟨t, m, rfl, .inr ⟨_, by simp [kwS], h2⟩⟩
 ·cases h.m.1
theorem zwv {l : List z02} {b p : Int} {ts r : List Tok} {w : ByteArray} (hw : kwS.all (fun v => !(v.data.toList == w.data.toList)) = true) (h : G (sL l b p) ts r) (hr : z2m w r = false) : z2m w ts = false := by
 cases l with
 | nil => simp only [sL] at h; rw [h.nil]; exact hr
 | cons s l =>
  simp only [sL] at h
  replace h := h.app; obtain ⟨m, h1, h⟩ := h
  obtain ⟨t, ts', rfl, h2 | ⟨v, hv, h2⟩⟩ := z05t h1
  ·exact zqn h2
  ·have := List.all_eq_true.1 hw v hv
   exact h2.no (by simpa using this)
theorem zzb {L : Int} {i f : Nat} {ts : List Tok} (h : z2m (ByteArray.mk #[125]) ts = true) : z8o L (f + 1) i ts = none := by
 simp only [z8o]
 rw [zgu h (by decide), zgu h (by decide), zgu h (by decide), zgu h (by decide), zgu h (by decide), zgu h (by decide), zws h]
 simp only [Bool.false_eq_true, if_false]
/-! ### Statements -/
section
variable {L : Int}
theorem rtB {bo : List z02} (ih : ∀ (i : Nat) ts r, G (sL bo (i : Int) 0) ts r → z2m (ByteArray.mk #[125]) r = true → BSs L i ts (bkL bo) r) {i : Nat} {ts r : List Tok} (h : G (inB (fun q => sL bo q 0) (i : Int)) ts r) : BB L i ts (bkL bo) r := by
 unfold inB at h
 replace h := h.app; obtain ⟨m1, h1, h⟩ := h
 obtain ⟨t1, rfl, q1⟩ := h1.w
 replace h := h.app; obtain ⟨m2, h2, h⟩ := h
 obtain ⟨hd, rfl⟩ := h2.d
 replace h := h.app; obtain ⟨m3, h3, h⟩ := h
 obtain ⟨t4, rfl, q4⟩ := h.w
 have h3 : G (sL bo ((i + 1 : Nat) : Int) 0) m1 (t4 :: r) := by simpa using h3
 obtain ⟨f0, hf⟩ := ih (i + 1) _ _ h3 (q4.sees (by decide))
 refine ⟨f0 + 1, fun f hf' => ?_⟩
 cases f with
 | zero => omega
 | succ f =>
  have e : decide (i = 24) = false := by simp; omega
  simp only [z8d, e, Bool.and_false, Bool.false_eq_true, if_false, q1.must (L := L) (by decide), Rs.bind]
  rw [hf f (by omega)]
  simp only [q4.must (L := L) (by decide)]
mutual
theorem rtS : ∀ (s : z02) (i : Nat) (ts r : List Tok), G (sS s (i : Int) 0) ts r → z2m (ByteArray.mk #[101, 108, 115, 101]) r = false → BS1 L i ts (bkS s) r
 | .mk k n tg e c bo el ar, i, ts, r, h, hr => by
  have hb := fun ts r => rtB (L := L) (bo := bo) (rtL bo) (i := i) (ts := ts) (r := r)
  have hl := fun ts r => rtB (L := L) (bo := el) (rtL el) (i := i) (ts := ts) (r := r)
  have ha := rtA ar
  simp only [sS] at h
  simp only [bkS]
  by_cases hk : (k == 1) = true
  ·rw [if_pos hk] at h ⊢
   replace h := h.app; obtain ⟨m1, h1, h⟩ := h
   obtain ⟨t1, rfl, k1, x1⟩ := h1.n
   replace h := h.app; obtain ⟨m2, h2, h⟩ := h
   obtain ⟨t2, rfl, q2⟩ := h2.w
   replace h := h.app; obtain ⟨m3, h3, h⟩ := h
   obtain ⟨t4, rfl, q4⟩ := h.w
   refine ⟨1, fun f hf => ?_⟩
   cases f with
   | zero => omega
   | succ f =>
    have e : sOf 1 (t1 :: t2 :: m2) = true := by simp [sOf, k1]
    simp only [z8o, zqn k1, Bool.false_eq_true, if_false, e, if_true, zcu, z8h (L := L) k1 x1, Rs.bind, q2.must (L := L) (by decide), rtX (L := L) h3 (by rw [q4.which (by decide)]; decide) (by rw [q4.which (by decide)]; decide), q4.must (L := L) (by decide)]
  rw [if_neg hk] at h ⊢
  clear hk
  by_cases hk : (k == 2) = true
  ·rw [if_pos hk] at h ⊢
   replace h := h.app; obtain ⟨m1, h1, h⟩ := h
   obtain ⟨t1, rfl, q1⟩ := h1.w
   replace h := h.app; obtain ⟨m2, h2, h⟩ := h
   replace h := h.app; obtain ⟨m3, h3, h⟩ := h
   obtain ⟨f1, hf1⟩ := hb _ _ h3
   cases el with
   | nil =>
    have h : m3 = r := h.nil
    subst h
    refine ⟨f1 + 1, fun f hf => ?_⟩
    cases f with
    | zero => omega
    | succ f =>
     simp only [z8o, q1.sees (r := m1) (by decide), if_true, List.tail_cons, rtC (L := L) h2, Rs.bind]
     rw [hf1 f (by omega)]
     simp only [hr, Bool.false_eq_true, if_false, bkL]
   | cons s0 el =>
    simp only [List.isEmpty_cons, Bool.false_eq_true, if_false] at h
    replace h := h.app; obtain ⟨m4, h4, h⟩ := h
    obtain ⟨t4, rfl, q4⟩ := h4.w
    obtain ⟨f2, hf2⟩ := hl _ _ h
    refine ⟨f1 + f2 + 1, fun f hf => ?_⟩
    cases f with
    | zero => omega
    | succ f =>
     simp only [z8o, q1.sees (r := m1) (by decide), if_true, List.tail_cons, rtC (L := L) h2, Rs.bind]
     rw [hf1 f (by omega)]
     simp only [q4.sees (r := m4) (by decide), if_true, List.tail_cons]
     rw [hf2 f (by omega)]
  rw [if_neg hk] at h ⊢
  clear hk
  by_cases hk : (k == 3) = true
  ·rw [if_pos hk] at h ⊢
   replace h := h.app; obtain ⟨m1, h1, h⟩ := h
   obtain ⟨t1, rfl, q1⟩ := h1.w
   replace h := h.app; obtain ⟨m2, h2, h⟩ := h
   obtain ⟨f1, hf1⟩ := hb _ _ h
   refine ⟨f1 + 1, fun f hf => ?_⟩
   cases f with
   | zero => omega
   | succ f =>
    simp only [z8o, q1.sees (r := m1) (by decide), q1.no (r := m1) (w' := ByteArray.mk #[105, 102]) (by decide), Bool.false_eq_true, if_false, if_true, List.tail_cons, rtC (L := L) h2, Rs.bind]
    rw [hf1 f (by omega)]
  rw [if_neg hk] at h ⊢
  clear hk
  by_cases hk : (k == 4) = true
  ·rw [if_pos hk] at h ⊢
   replace h := h.app; obtain ⟨m1, h1, h⟩ := h
   obtain ⟨t1, rfl, q1⟩ := h1.w
   replace h := h.app; obtain ⟨m2, h2, h⟩ := h
   obtain ⟨t2, rfl, k2, x2⟩ := h2.n
   replace h := h.app; obtain ⟨m3, h3, h⟩ := h
   obtain ⟨t3, rfl, q3⟩ := h3.w
   replace h := h.app; obtain ⟨m4, h4, h⟩ := h
   obtain ⟨t4, rfl, k4, x4⟩ := h4.n
   replace h := h.app; obtain ⟨m5, h5, h⟩ := h
   obtain ⟨t5, rfl, q5⟩ := h5.w
   replace h := h.app; obtain ⟨m6, h6, h⟩ := h
   obtain ⟨t7, t8, rfl, q7, q8⟩ := h.w2
   refine ⟨1, fun f hf => ?_⟩
   cases f with
   | zero => omega
   | succ f =>
    simp only [z8o, q1.sees (r := t2 :: t3 :: t4 :: t5 :: m5) (by decide), q1.no (r := t2 :: t3 :: t4 :: t5 :: m5) (w' := ByteArray.mk #[105, 102]) (by decide), q1.no (r := t2 :: t3 :: t4 :: t5 :: m5) (w' := ByteArray.mk #[119, 104, 105, 108, 101]) (by decide), Bool.false_eq_true, if_false, if_true, List.tail_cons, zl1, Rs.bind,
     z8h (L := L) k2 x2, q3.must (L := L) (by decide), z8h (L := L) k4 x4, q5.must (L := L) (by decide), rtX (L := L) h6 (by rw [q7.which (by decide)]; decide) (by rw [q7.which (by decide)]; decide), q7.must (L := L) (by decide), q8.must (L := L) (by decide)]
  rw [if_neg hk] at h ⊢
  clear hk
  by_cases hk : (k == 5) = true
  ·rw [if_pos hk] at h ⊢
   replace h := h.app; obtain ⟨m1, h1, h⟩ := h
   obtain ⟨t1, rfl, q1⟩ := h1.w
   replace h := h.app; obtain ⟨m2, h2, h⟩ := h
   obtain ⟨t2, rfl, k2, x2⟩ := h2.n
   replace h := h.app; obtain ⟨m3, h3, h⟩ := h
   obtain ⟨he, rfl⟩ := h3.m
   replace h := h.app; obtain ⟨m4, h4, h⟩ := h
   obtain ⟨t4, rfl, q4⟩ := h4.w
   replace h := h.app; obtain ⟨m5, h5, h⟩ := h
   obtain ⟨t6, rfl, q6⟩ := h.w
   obtain ⟨_, hq⟩ := ha i _ _ h5 (q6.sees (by decide))
   cases har : bkA ar with
   | nil =>
    cases ar with
    | nil => cases he
    | cons a ar => obtain ⟨t, v, b⟩ := a; simp only [bkA] at har; cases har
   | cons a l =>
    obtain ⟨m6, ⟨f1, hf1⟩, f2, hf2⟩ := hq a l har
    refine ⟨f1 + f2 + 1, fun f hf => ?_⟩
    cases f with
    | zero => omega
    | succ f =>
     simp only [z8o, q1.sees (r := t2 :: t4 :: m4) (by decide), q1.no (r := t2 :: t4 :: m4) (w' := ByteArray.mk #[105, 102]) (by decide), q1.no (r := t2 :: t4 :: m4) (w' := ByteArray.mk #[119, 104, 105, 108, 101]) (by decide), q1.no (r := t2 :: t4 :: m4) (w' := ByteArray.mk #[115, 101, 110, 100]) (by decide), Bool.false_eq_true, if_false, if_true, List.tail_cons, Rs.bind,
      z8h (L := L) k2 x2, q4.must (L := L) (by decide)]
     rw [hf1 f (by omega)]
     simp only
     rw [hf2 f (by omega)]
     simp only [q6.must (L := L) (by decide)]
  rw [if_neg hk] at h ⊢
  clear hk
  by_cases hk : (k == 6) = true
  ·rw [if_pos hk] at h ⊢
   replace h := h.app; obtain ⟨m1, h1, h⟩ := h
   obtain ⟨t1, rfl, q1⟩ := h1.w
   replace h := h.app; obtain ⟨m2, h2, h⟩ := h
   obtain ⟨t3, rfl, q3⟩ := h.w
   refine ⟨1, fun f hf => ?_⟩
   cases f with
   | zero => omega
   | succ f =>
    simp only [z8o, q1.sees (r := m1) (by decide), q1.no (r := m1) (w' := ByteArray.mk #[105, 102]) (by decide), q1.no (r := m1) (w' := ByteArray.mk #[119, 104, 105, 108, 101]) (by decide), q1.no (r := m1) (w' := ByteArray.mk #[115, 101, 110, 100]) (by decide), q1.no (r := m1) (w' := ByteArray.mk #[114, 101, 99, 118]) (by decide), Bool.false_eq_true, if_false, if_true, List.tail_cons, zcv, Rs.bind,
     rtC (L := L) h2, q3.must (L := L) (by decide)]
  rw [if_neg hk] at h ⊢
  clear hk
  by_cases hk : (k == 7) = true
  ·rw [if_pos hk] at h
   replace h := h.app; obtain ⟨m1, h1, h⟩ := h
   obtain ⟨t1, rfl, q1⟩ := h1.w
   replace h := h.app; obtain ⟨m2, h2, h⟩ := h
   obtain ⟨t2, rfl, k2, x2⟩ := h2.n
   obtain ⟨t3, rfl, q3⟩ := h.w
   refine ⟨1, fun f hf => ?_⟩
   cases f with
   | zero => omega
   | succ f =>
    simp only [z8o, q1.sees (r := t2 :: t3 :: r) (by decide), q1.no (r := t2 :: t3 :: r) (w' := ByteArray.mk #[105, 102]) (by decide), q1.no (r := t2 :: t3 :: r) (w' := ByteArray.mk #[119, 104, 105, 108, 101]) (by decide), q1.no (r := t2 :: t3 :: r) (w' := ByteArray.mk #[115, 101, 110, 100]) (by decide), q1.no (r := t2 :: t3 :: r) (w' := ByteArray.mk #[114, 101, 99, 118]) (by decide), q1.no (r := t2 :: t3 :: r) (w' := ByteArray.mk #[97, 115, 115, 101, 114, 116]) (by decide), Bool.false_eq_true, if_false, if_true, List.tail_cons, zg2, Rs.bind,
     z8h (L := L) k2 x2, q3.must (L := L) (by decide)]
  ·rw [if_neg hk] at h
   cases h.m.1
theorem rtL : ∀ (l : List z02) (i : Nat) (ts r : List Tok), G (sL l (i : Int) 0) ts r → z2m (ByteArray.mk #[125]) r = true → BSs L i ts (bkL l) r
 | [], i, ts, r, h, hr => by
  simp only [sL] at h
  simp only [bkL]
  rw [h.nil]
  exact z031 fun f => zzb hr
 | s :: l, i, ts, r, h, hr => by
  simp only [sL] at h
  simp only [bkL]
  obtain ⟨m, h1, h2⟩ := h.app
  have hn : z2m (ByteArray.mk #[101, 108, 115, 101]) m = false := zwv (by decide) h2 (zgu hr (by decide))
  exact zz7 (rtS s i ts m h1 hn) (rtL l i m r h2 hr)
theorem rtA : ∀ (l : List z0n) (i : Nat) (ts r : List Tok), G (sA l (i : Int) 0) ts r → z2m (ByteArray.mk #[125]) r = true → BAs L i ts (bkA l) r ∧ ∀ a l', bkA l = a :: l' → ∃ m, BAr L i ts a m ∧ BAs L i m l' r
 | [], i, ts, r, h, hr => by
  simp only [sA] at h
  simp only [bkA]
  rw [h.nil]
  exact ⟨z032 hr, fun a l' h => by cases h⟩
 | .mk t v bo :: l, i, ts, r, h, hr => by
  have hb := fun ts r => rtB (L := L) (bo := bo) (rtL bo) (i := i) (ts := ts) (r := r)
  simp only [sA] at h
  simp only [bkA]
  replace h := h.app; obtain ⟨m1, h1, h⟩ := h
  obtain ⟨t1, rfl, k1, x1⟩ := h1.n
  replace h := h.app; obtain ⟨m2, h2, h⟩ := h
  obtain ⟨t2, rfl, q2⟩ := h2.w
  replace h := h.app; obtain ⟨m3, h3, h⟩ := h
  obtain ⟨t3, rfl, k3, x3⟩ := h3.n
  replace h := h.app; obtain ⟨m4, h4, h⟩ := h
  obtain ⟨t4, rfl, q4⟩ := h4.w
  replace h := h.app; obtain ⟨m5, h5, h⟩ := h
  obtain ⟨f1, hf1⟩ := hb _ _ h5
  have hA : BAr L i (t1 :: t2 :: t3 :: t4 :: m4) (.mk t v (bkL bo)) m5 := by
   refine ⟨f1 + 1, fun f hf => ?_⟩
   cases f with
   | zero => omega
   | succ f =>
    simp only [sArm, z8h (L := L) k1 x1, Rs.bind, q2.must (L := L) (by decide), z8h (L := L) k3 x3, q4.must (L := L) (by decide)]
    rw [hf1 f (by omega)]
  have hR := (rtA l i m5 r h hr).1
  exact ⟨zz8 (zqn k1) hA hR, fun a l' e => by injection e with e1 e2; subst e1; subst e2; exact ⟨m5, hA, hR⟩⟩
end
end
end Go.Proofs.YtokjbpmjdcbogaaGreatDoor.Abs.Par
/- What is written is parsed back: channels, rules, processes, systems. -/
namespace Go.Proofs.YtokjbpmjdcbogaaGreatDoor.Abs.Par
open Go Go.RowKit Wri
set_option linter.unusedVariables false
set_option linter.unusedSimpArgs false
def ML {α : Type} (more : List Tok → Option (Rs α)) : List Tok → List α → List Tok → Prop
 | ts, [], r => ts = r
 | ts, v :: l, r => ∃ m, more ts = some (.ok v m) ∧ ML more m l r
theorem zgv {α : Type} {more : List Tok → Option (Rs α)} (m : More more) : ∀ (l : List α) (ts r : List Tok) (f : Nat), ML more ts l r → more r = none → ts.length + 1 ≤ f → zb6 more f ts = .ok l r
 | [], ts, r, f, h, hr, hf => by
  have h : ts = r := h
  subst h
  cases f with
  | zero => omega
  | succ f => simp only [zb6, hr]
 | v :: l, ts, r, f, h, hr, hf => by
  obtain ⟨s, h1, h2⟩ := h
  have := (m.suf _ _ _ h1).2
  cases f with
  | zero => omega
  | succ f =>
   simp only [zb6, h1, Rs.bind]
   rw [zgv m l s r f h2 hr (by omega)]
theorem zgw {α β : Type} {more : List Tok → Option (Rs α)} {g : Nat → β → Wr} {h : β → α} {i0 : Nat} (hs : ∀ i x ts m, i0 ≤ i → G (g i x) ts m → more ts = some (.ok (h x) m)) : ∀ (l : List β) (i : Nat) (ts r : List Tok), i0 ≤ i → G (z6n g i l) ts r → ML more ts (l.map h) r
 | [], i, ts, r, hi, hg => by simp only [z6n] at hg; exact hg.nil
 | x :: l, i, ts, r, hi, hg => by
  simp only [z6n] at hg
  obtain ⟨m, h1, h2⟩ := hg.app
  exact ⟨m, hs i x ts m hi h1, zgw hs l (i + 1) m r (by omega) h2⟩
def bkCh (c : z24) : z5b := ⟨c.Name, c.Kind, c.Size, c.From, c.To, c.Tags⟩
def bkMo (c : z35) : z7j := ⟨c.From, c.Tag, c.To⟩
def bkRu (c : z2c) : z5p := ⟨c.Chan, c.Moves.map bkMo⟩
def bkPr (c : z2d) : z4q := ⟨c.Name, c.Vars, bkL c.Body⟩
def zkd (s : z18) : z16 := ⟨s.Chans.map bkCh, s.Rules.map bkRu, s.Procs.map bkPr⟩
section
variable {L : Int} {ts r : List Tok}
theorem z033 {k : Int} {t : Tok} {m : List Tok} (hk : Wri.kindOk k = true) (ht : IsT (zmg k) t) : ∃ j : Nat, z4h zul (t :: m) = some j ∧ (j : Int) = k := by
 unfold Wri.kindOk at hk
 simp only [Bool.and_eq_true, decide_eq_true_eq] at hk
 have : k = 0 ∨ k = 1 ∨ k = 2 := by omega
 rcases this with rfl | rfl | rfl
 ·exact ⟨0, by rw [ht.which (by decide)]; decide, by decide⟩
 ·exact ⟨1, by rw [ht.which (by decide)]; decide, by decide⟩
 ·exact ⟨2, by rw [ht.which (by decide)]; decide, by decide⟩
theorem rtCh {c : z24} (h : G (sCh c) ts r) : ziy L ts = some (.ok (bkCh c) r) := by
 obtain ⟨nm, k, z, fr, to, tg⟩ := c
 unfold sCh at h
 simp only at h
 replace h := h.app; obtain ⟨m1, h1, h⟩ := h
 obtain ⟨t1, rfl, q1⟩ := h1.w
 replace h := h.app; obtain ⟨m2, h2, h⟩ := h
 obtain ⟨t2, rfl, k2, x2⟩ := h2.n
 replace h := h.app; obtain ⟨m3, h3, h⟩ := h
 replace h := h.app; obtain ⟨m4, h4, h⟩ := h
 obtain ⟨t4, rfl, k4, x4⟩ := h4.i
 replace h := h.app; obtain ⟨m5, h5, h⟩ := h
 obtain ⟨t5, rfl, q5⟩ := h5.w
 replace h := h.app; obtain ⟨m6, h6, h⟩ := h
 obtain ⟨t6, rfl, k6, x6⟩ := h6.n
 replace h := h.app; obtain ⟨m7, h7, h⟩ := h
 obtain ⟨t7, rfl, q7⟩ := h7.w
 replace h := h.app; obtain ⟨m8, h8, h⟩ := h
 obtain ⟨t8, rfl, k8, x8⟩ := h8.n
 replace h := h.app; obtain ⟨m9, h9, h⟩ := h
 obtain ⟨t9, rfl, q9⟩ := h9.w
 replace h := h.app; obtain ⟨m10, h10, h⟩ := h
 obtain ⟨he, rfl⟩ := h10.m
 replace h := h.app; obtain ⟨m11, h11, h⟩ := h
 obtain ⟨t12, t13, rfl, q12, q13⟩ := h.w2
 cases tg with
 | nil => cases he
 | cons a l =>
  simp only [z6n] at h11
  obtain ⟨m12, h12, h13⟩ := h11.app
  have h12 : G (wN a) _ _ := h12
  obtain ⟨t14, rfl, k14, x14⟩ := h12.n
  have hml := zgw (more := mTag L) (h := fun x => x) (i0 := 1) (fun i x ts m hi hg => by
   unfold wTag at hg
   rw [if_neg (by omega)] at hg
   replace hg := hg.app; obtain ⟨m1, h1, hg⟩ := hg
   obtain ⟨t1, rfl, q1⟩ := h1.w
   obtain ⟨t2, rfl, k2, x2⟩ := hg.n
   unfold mTag
   rw [if_pos (q1.sees (by decide)), List.tail_cons, z8h k2 x2]) l (0 + 1) _ _ (by omega) h13
  rw [List.map_id'] at hml
  have hmany := zgv zlm l m12 _ (m12.length + 1) hml (by unfold mTag; rw [if_neg (by rw [q12.no (by decide)]; decide)]) (Nat.le_refl _)
  split at h3
  ·rename_i hk
   obtain ⟨t3, rfl, q3⟩ := h3.w
   obtain ⟨j, hj, ej⟩ := z033 (m := t4 :: t5 :: t6 :: t7 :: t8 :: t9 :: t14 :: m12) hk q3
   unfold ziy
   rw [if_pos (q1.sees (by decide)), List.tail_cons]
   unfold zl2
   simp only [z8h (L := L) k2 x2, Rs.bind, hj, List.tail_cons, zwt (L := L) k4 x4, q5.must (L := L) (by decide), z8h (L := L) k6 x6, q7.must (L := L) (by decide), z8h (L := L) k8 x8, q9.must (L := L) (by decide), z8h (L := L) k14 x14, hmany, q12.must (L := L) (by decide), q13.must (L := L) (by decide), ej]
   rfl
  ·cases h3.m.1
theorem rtRu {c : z2c} (h : G (sR c) ts r) : ziz L ts = some (.ok (bkRu c) r) := by
 obtain ⟨nm, mv⟩ := c
 unfold sR at h
 simp only at h
 replace h := h.app; obtain ⟨m1, h1, h⟩ := h
 obtain ⟨t1, rfl, q1⟩ := h1.w
 replace h := h.app; obtain ⟨m2, h2, h⟩ := h
 obtain ⟨t2, rfl, k2, x2⟩ := h2.n
 replace h := h.app; obtain ⟨m3, h3, h⟩ := h
 obtain ⟨t3, rfl, q3⟩ := h3.w
 replace h := h.app; obtain ⟨m4, h4, h⟩ := h
 obtain ⟨t5, rfl, q5⟩ := h.w
 have hml := zgw (more := zl3 L) (h := bkMo) (i0 := 0) (fun i x ts m hi hg => by
  unfold zhk at hg
  replace hg := hg.app; obtain ⟨m1, h1, hg⟩ := hg
  obtain ⟨t1, rfl, k1, x1⟩ := h1.i
  replace hg := hg.app; obtain ⟨m2, h2, hg⟩ := hg
  obtain ⟨t2, rfl, k2, x2⟩ := h2.n
  replace hg := hg.app; obtain ⟨m3, h3, hg⟩ := hg
  obtain ⟨t3, rfl, k3, x3⟩ := h3.i
  obtain ⟨t4, rfl, q4⟩ := hg.w
  unfold zl3
  rw [z05s k1]
  simp only [Bool.false_eq_true, if_false, zon, zwt (L := L) k1 x1, Rs.bind, z8h (L := L) k2 x2, zwt (L := L) k3 x3, q4.must (L := L) (by decide)]
  rfl) mv 0 _ _ (by omega) h4
 have hmany := zgv zie _ m3 _ (m3.length + 1) hml (by unfold zl3; rw [if_pos (q5.sees (by decide))]) (Nat.le_refl _)
 unfold ziz
 rw [if_pos (q1.sees (by decide)), List.tail_cons]
 unfold zl4
 simp only [z8h (L := L) k2 x2, Rs.bind, q3.must (L := L) (by decide), hmany, q5.must (L := L) (by decide)]
 rfl
theorem rtPr {c : z2d} (h : G (sP c) ts r) : zj0 L ts = some (.ok (bkPr c) r) := by
 obtain ⟨nm, vs, bo⟩ := c
 unfold sP at h
 simp only at h
 replace h := h.app; obtain ⟨m1, h1, h⟩ := h
 obtain ⟨t1, rfl, q1⟩ := h1.w
 replace h := h.app; obtain ⟨m2, h2, h⟩ := h
 obtain ⟨t2, rfl, k2, x2⟩ := h2.n
 replace h := h.app; obtain ⟨m3, h3, h⟩ := h
 obtain ⟨t3, rfl, q3⟩ := h3.w
 replace h := h.app; obtain ⟨m4, h4, h⟩ := h
 replace h := h.app; obtain ⟨m5, h5, h⟩ := h
 obtain ⟨t6, rfl, q6⟩ := h.w
 have hml := zgw (more := mVar L) (h := fun x => x) (i0 := 0) (fun i x ts m hi hg => by
  unfold wVar at hg
  replace hg := hg.app; obtain ⟨m1, h1, hg⟩ := hg
  obtain ⟨t1, rfl, q1⟩ := h1.w
  replace hg := hg.app; obtain ⟨m2, h2, hg⟩ := hg
  obtain ⟨t2, rfl, k2, x2⟩ := h2.n
  obtain ⟨t3, rfl, q3⟩ := hg.w
  unfold mVar
  rw [if_pos (q1.sees (by decide)), List.tail_cons]
  simp only [z8h (L := L) k2 x2, Rs.bind, q3.must (L := L) (by decide)]) vs 0 _ _ (by omega) h4
 rw [List.map_id'] at hml
 have hno : z2m (ByteArray.mk #[118, 97, 114]) m4 = false := zwv (by decide) h5 (q6.no (by decide))
 have hmany := zgv zln vs m3 _ (m3.length + 1) hml (by unfold mVar; rw [hno]; rfl) (Nat.le_refl _)
 have hb := (rtL (L := L) bo 0 m4 _ h5 (q6.sees (by decide))).body zww
 unfold zj0
 rw [if_pos (q1.sees (by decide)), List.tail_cons]
 unfold zl5
 simp only [z8h (L := L) k2 x2, Rs.bind, q3.must (L := L) (by decide), hmany, hb, q6.must (L := L) (by decide)]
 rfl
theorem zoo {β : Type} {g : β → Wr} {w w' : ByteArray} {p q : β → Wr} (hg : ∀ x, g x = Wri.wW [w] ++ q x) (hne : (w.data.toList == w'.data.toList) = false) {l : List β} {i : Nat} (h : G (z6n (fun _ => g) i l) ts r) (hr : z2m w' r = false) : z2m w' ts = false := by
 cases l with
 | nil => simp only [z6n] at h; rw [h.nil]; exact hr
 | cons x l =>
  simp only [z6n] at h
  obtain ⟨m, h1, _⟩ := h.app
  rw [hg] at h1
  obtain ⟨m2, h2, _⟩ := h1.app
  obtain ⟨t, rfl, ht⟩ := h2.w
  exact ht.no hne
theorem z084 {s : z18} (h : G (Wri.sSys s) ts []) : sAll L ts = .ok (zkd s) [] := by
 unfold Wri.sSys at h
 replace h := h.app; obtain ⟨m1, h1, h⟩ := h
 obtain ⟨m2, h2, h3⟩ := h.app
 have n3 : ∀ w : ByteArray, (([112, 114, 111, 99] : List UInt8) == w.data.toList) = false → z2m w m2 = false := fun w hw => zoo (w := ByteArray.mk #[112, 114, 111, 99]) (p := sP) (fun x => rfl) hw h3 rfl
 have n2 : z2m (ByteArray.mk #[99, 104, 97, 110]) m1 = false := zoo (w := ByteArray.mk #[114, 117, 108, 101]) (p := sR) (fun x => rfl) (by decide) h2 (n3 _ (by decide))
 have l1 := zgw (more := ziy L) (h := bkCh) (i0 := 0) (fun i x ts m hi hg => rtCh hg) s.Chans 0 _ _ (by omega) h1
 have l2 := zgw (more := ziz L) (h := bkRu) (i0 := 0) (fun i x ts m hi hg => rtRu hg) s.Rules 0 _ _ (by omega) h2
 have l3 := zgw (more := zj0 L) (h := bkPr) (i0 := 0) (fun i x ts m hi hg => rtPr hg) s.Procs 0 _ _ (by omega) h3
 have y1 := zgv zmk _ _ _ (ts.length + 1) l1 (by unfold ziy; rw [n2]; rfl) (Nat.le_refl _)
 have y2 := zgv zml _ _ _ (m1.length + 1) l2 (by unfold ziz; rw [n3 _ (by decide)]; rfl) (Nat.le_refl _)
 have y3 := zgv zqo _ _ _ (m2.length + 1) l3 (by unfold zj0; rfl) (Nat.le_refl _)
 unfold sAll Par.sSys
 simp only [y1, Rs.bind, y2, y3]
 rfl
end
end Go.Proofs.YtokjbpmjdcbogaaGreatDoor.Abs.Par
/- Words put one behind the other are read; a text of what is written says what is written. -/
namespace Go.Proofs.YtokjbpmjdcbogaaGreatDoor.Abs.Par
open Go Go.RowKit Wri
set_option linter.unusedVariables false
set_option linter.unusedSimpArgs false
/-! ### A word and what stands behind it -/
theorem zke : ∀ (w rest : Bs), runL w = w.length → (∀ b ∈ rest.head?, isA b = false) → runL (w ++ rest) = w.length
 | [], rest, _, hr => by
  cases rest with
  | nil => rfl
  | cons b r => rw [List.nil_append, zc9, if_neg (by rw [hr b (by simp)]; decide)]; rfl
 | b :: r, rest, h, hr => by
  rw [zc9] at h
  rw [List.cons_append, zc9]
  split at h
  ·rename_i hA
   rw [if_pos hA, zke r rest (by simpa using h) hr]
   rfl
  ·simp at h
theorem zum {b : UInt8} {r rest : Bs} (h : zce (b :: r) = (b :: r).length) (hr : ∀ b ∈ rest.head?, b ≠ 61) : zce (b :: r ++ rest) = (b :: r).length := by
 cases r with
 | nil =>
  simp only [zce, List.length_cons, List.length_nil] at h ⊢
  cases rest with
  | nil => simpa using h
  | cons c q =>
   have : c ≠ 61 := hr c (by simp)
   simp only [List.cons_append, List.nil_append]
   simpa [this] using h
 | cons c r =>
  simp only [zce] at h ⊢
  simp only [List.cons_append, List.length_cons] at h ⊢
  simpa using h
/-- Does what follows leave the word as it is? -/
def Leaves (w rest : Bs) : Prop := (w.head?.map isA = some true → ∀ b ∈ rest.head?, isA b = false) ∧ (w.head?.map isA = some false → ∀ b ∈ rest.head?, b ≠ 61)
theorem zwx {b : UInt8} : isA b = true ↔ isL b = true ∨ isD b = true := by unfold isA; simp
theorem zwy {w rest : Bs} {x : W} (h : oneW w x) (hl : Leaves w rest) : zdf (w ++ rest) = .ok x := by
  obtain ⟨h1, h2⟩ := h
  cases w with
  | nil => cases h1
  | cons b r =>
    have hA := hl.1
    have hS := hl.2
    simp only [List.head?_cons, Option.map_some, Option.some.injEq] at hA hS
    rw [zbt] at h1
    rw [List.cons_append, zbt]
    have ht : (b :: (r ++ rest)).take (b :: r).length = b :: r := by rw [← List.cons_append]; simp
    have htt : (b :: r).take (b :: r).length = b :: r := by simp
    split at h1
    · rename_i hL
      rw [if_pos hL]
      split at h1
      · cases h1
      · rename_i h12
        injection h1 with h1; subst h1
        have hr : runL (b :: r) = (b :: r).length := h2
        have hr' := zke (b :: r) rest hr (hA (zwx.2 (.inl hL)))
        rw [List.cons_append] at hr'
        have h12' : ¬ 12 < (b :: r).length := by rw [← hr]; exact h12
        rw [hr', if_neg h12', ht, hr, htt]
    · rename_i hL
      rw [if_neg hL]
      split at h1
      · rename_i hD
        rw [if_pos hD]
        split at h1
        · rename_i hn
          injection h1 with h1; subst h1
          have hr : runL (b :: r) = (b :: r).length := h2
          have hr' := zke (b :: r) rest hr (hA (zwx.2 (.inr hD)))
          rw [List.cons_append] at hr'
          rw [hr, htt] at hn
          rw [hr', ht, if_pos hn, hr, htt]
        · cases h1
      · rename_i hD
        rw [if_neg hD]
        split at h1
        · cases h1
        · rename_i hs
          injection h1 with h1; subst h1
          have hr : zce (b :: r) = (b :: r).length := h2
          have hn : isA b = false := by
            cases hb : isA b with
            | false => rfl
            | true => rcases zwx.1 hb with h | h
                      · exact absurd h hL
                      · exact absurd h hD
          have hr' := zum (rest := rest) hr (hS hn)
          rw [List.cons_append] at hr'
          rw [hr', if_neg (by simp), hr]
theorem zzc {w rest : Bs} {x : W} (h : oneW w x) (hb : ∀ b ∈ w.head?, isB b = false) (hl : Leaves w rest) (p : Nat) :
  lexS (w ++ rest) p = (⟨x.kind, w, x.num, p⟩ :: (lexS rest (p + w.length)).1, (lexS rest (p + w.length)).2) := by
 have h1 := zwy h hl
 obtain ⟨h0, h2⟩ := h
 cases w with
 | nil => cases h0
 | cons b r =>
  have hbb : isB b = false := hb b (by simp)
  rw [List.cons_append] at h1 ⊢
  rw [zqp hbb h1]
  have e1 : (b :: (r ++ rest)).drop x.len = rest := by rw [h2, ← List.cons_append]; simp
  have e2 : (b :: (r ++ rest)).take x.len = b :: r := by rw [h2, ← List.cons_append]; simp
  rw [e1, e2, h2]
theorem zlo : ∀ (s rest : Bs) (p : Nat), s.all isB = true → lexS (s ++ rest) p = lexS rest (p + s.length)
 | [], rest, p, _ => rfl
 | b :: s, rest, p, h => by
  simp only [List.all_cons, Bool.and_eq_true] at h
  rw [List.cons_append, zif _ _ h.1, zlo s rest (p + 1) h.2, List.length_cons, Nat.add_assoc, Nat.add_comm 1]
/-! ### A text of words, each with the blanks behind it -/
def txt : List (ByteArray × Bs) → Bs
 | [] => []
 | x :: l => x.1.data.toList ++ (x.2 ++ txt l)
def Ch : List (ByteArray × Bs) → Prop
 | [] => True
 | x :: l => oneS x.1 = true ∧ x.2.all isB = true ∧ Leaves x.1.data.toList (x.2 ++ txt l) ∧ Ch l
theorem zwz : ∀ (l : List (ByteArray × Bs)) (p : Nat), Ch l → (lexS (txt l) p).2 = none ∧ Rw (l.map Prod.fst) (lexS (txt l) p).1 []
 | [], p, _ => by rw [txt, zmm]; exact ⟨rfl, rfl⟩
 | x :: l, p, h => by
  obtain ⟨h1, h2, h3, h4⟩ := h
  obtain ⟨y, hy, hb⟩ := z02x h1
  obtain ⟨i1, i2⟩ := zwz l (p + x.1.data.toList.length + x.2.length) h4
  simp only [txt]
  rw [zzc hy hb h3, zlo _ _ _ h2]
  exact ⟨i1, _, _, rfl, ⟨rfl, y, hy, rfl, rfl⟩, i2⟩
theorem Rw.len : ∀ {ws : List ByteArray} {ts r : List Tok}, Rw ws ts r → ts.length = ws.length + r.length
 | [], ts, r, h => by have h : ts = r := h; subst h; simp
 | w :: ws, ts, r, h => by
  obtain ⟨t, ts', e, _, h⟩ := h
  have := Rw.len h
  subst e
  simp only [List.length_cons]; omega
theorem zzd {s : z18} {t : ByteArray} {l : List (ByteArray × Bs)} (hb : (Wri.sSys s).bad = false) (hd : (Wri.sSys s).dp = false) (hn : (Wri.sSys s).ws.length ≤ 2000)
  (hl : l.map Prod.fst = (Wri.sSys s).ws) (ht : t.data.toList = txt l) (hc : Ch l) : gAll t = (zkd s, 0, 0) := by
 obtain ⟨h1, h2⟩ := zwz l 0 hc
 rw [hl] at h2
 have h3 := h2.len
 have h4 := z084 (L := (t.size : Int)) (s := s) ⟨hb, hd, h2⟩
 unfold gAll
 rw [ht]
 unfold told
 rw [h1]
 simp only
 rw [if_neg (by simp at h3; omega)]
 unfold fin
 simp only [bne_self_eq_false, Bool.false_eq_true, if_false, h4]
theorem zop {w : Bs} {b : UInt8} {rest : Bs} (hb : isB b = true) : Leaves w (b :: rest) := by
 have hA : isA b = false ∧ b ≠ 61 := by
  unfold isB at hb
  simp only [Bool.or_eq_true, beq_iff_eq] at hb
  rcases hb with rfl | rfl <;> decide
 exact ⟨fun _ c hc => by simp at hc; subst hc; exact hA.1, fun _ c hc => by simp at hc; subst hc; exact hA.2⟩
end Go.Proofs.YtokjbpmjdcbogaaGreatDoor.Abs.Par
/- The program finds two systems the same that differ in nothing that their kinds use; so what is parsed back is the same. -/
namespace Go.Proofs.YtokjbpmjdcbogaaGreatDoor.Abs.Par
open Go Go.RowKit Wri
set_option linter.unusedVariables false
set_option linter.unusedSimpArgs false
def Rel {α β : Type} (Q : α → β → Prop) (l : List α) (l' : List β) : Prop := l.length = l'.length ∧ ∀ (i : Nat) (x : α), l[i]? = some x → ∃ y, l'[i]? = some y ∧ Q x y
theorem Rel.nil {α β : Type} {Q : α → β → Prop} : Rel Q [] [] := ⟨rfl, fun i x h => by simp at h⟩
theorem Rel.cons {α β : Type} {Q : α → β → Prop} {a : α} {b : β} {l : List α} {l' : List β} (h : Q a b) (hr : Rel Q l l') : Rel Q (a :: l) (b :: l') := by
 refine ⟨by simp [hr.1], fun i x hi => ?_⟩
 cases i with
 | zero => simp at hi; subst hi; exact ⟨b, by simp, h⟩
 | succ i => simp at hi; obtain ⟨y, hy, hq⟩ := hr.2 i x hi; exact ⟨y, by simpa using hy, hq⟩
theorem Rel.map {α β γ : Type} {Q : α → β → Prop} (f : γ → α) (g : γ → β) : ∀ (l : List γ), (∀ x ∈ l, Q (f x) (g x)) → Rel Q (l.map f) (l.map g)
 | [], _ => Rel.nil
 | x :: l, h => Rel.cons (h x (by simp)) (Rel.map f g l fun y hy => h y (by simp [hy]))
theorem zmn {β γ O : Type} {Q : β → γ → Prop} {body : Int → Option (Sum Int (Sum O Unit))} {n H : Nat} {l : List β} {l' : List γ} (hr : Rel Q l l') (r : O) (hlen : l.length ≤ 4611686018427387904)
  (hs : ∀ (i : Nat) (x : β) (y : γ), idx l (i : Int) = some x → idx l' (i : Int) = some y → Q x y → x ∈ l → i < l.length → IntKind.i64.wrap ((i : Int) + 1) = ((i + 1 : Nat) : Int) → Sn n H (body (i : Int)) (.inl ((i + 1 : Nat) : Int)))
  (he : body (l.length : Int) = some (.inr (.inr ()))) : Sn n H (iter body 0) (.inr ()) := by
 have h := zmo (n := n) (H := H) l (fun _ => true) r hlen (fun i x h0 h1 h2 h3 h4 => by
  obtain ⟨y, hy, hq⟩ := hr.2 i x h0
  have hi : i < l'.length := by rw [← hr.1]; exact h3
  have hy' : idx l' (i : Int) = some y := by rw [zf3 hi]; rw [List.getElem?_eq_getElem hi] at hy; exact hy
  simpa using hs i x y h1 hy' hq h2 h3 h4) he
 have e : (l.all fun _ => true) = true := by simp
 rw [e] at h
 simpa using h
theorem zx0 {β γ O : Type} {Q : β → γ → Prop} {body : Int → Option (Sum Int (Sum O Unit))} {l : List β} {l' : List γ} (hr : Rel Q l l') (r : O) (hlen : l.length ≤ 4611686018427387904)
  (hs : ∀ (i : Nat) (x : β) (y : γ), idx l (i : Int) = some x → idx l' (i : Int) = some y → Q x y → x ∈ l → i < l.length → IntKind.i64.wrap ((i : Int) + 1) = ((i + 1 : Nat) : Int) → body (i : Int) = some (.inl ((i + 1 : Nat) : Int)))
  (he : body (l.length : Int) = some (.inr (.inr ()))) : iter body 0 = some (.inr ()) := by
 rcases zmn (n := 0) (H := 0) hr r hlen (fun i x y h1 h2 h3 h4 h5 h6 => .inl (hs i x y h1 h2 h3 h4 h5 h6)) he with h | ⟨_, h⟩
 ·exact h
 ·omega
/-! ### Alike -/
mutual
def QE : z03 → z03 → Prop
 | ⟨k, m, s, l⟩, b => k = b.Kind ∧ (k = 1 → m = b.Num) ∧ (k = 2 → s = b.Name) ∧ QEs l b.Kids
def QEs : List z03 → List z03 → Prop
 | [], l' => l' = []
 | a :: l, l' => ∃ b r, l' = b :: r ∧ QE a b ∧ QEs l r
end
theorem QEs.rel : ∀ {l l' : List z03}, QEs l l' → Rel QE l l'
 | [], l', h => by simp only [QEs] at h; subst h; exact Rel.nil
 | a :: l, l', h => by
  simp only [QEs] at h
  obtain ⟨b, r, rfl, h1, h2⟩ := h
  exact Rel.cons h1 (QEs.rel h2)
def QC (c d : z2n) : Prop := c.Op = d.Op ∧ QE c.L d.L ∧ QE c.R d.R
mutual
def QS : z02 → z02 → Prop
 | .mk k n t e c bo el ar, b => k = b.Kind ∧ (k = 1 → n = b.Name ∧ QE e b.E) ∧ (k = 2 → QC c b.C ∧ QL bo b.Body ∧ QL el b.Else) ∧ (k = 3 → QC c b.C ∧ QL bo b.Body) ∧ (k = 4 → n = b.Name ∧ t = b.Tag ∧ QE e b.E)
  ∧ (k = 5 → n = b.Name ∧ QA ar b.Arms) ∧ (k = 6 → QC c b.C) ∧ (k = 7 → n = b.Name)
def QL : List z02 → List z02 → Prop
 | [], l' => l' = []
 | a :: l, l' => ∃ b r, l' = b :: r ∧ QS a b ∧ QL l r
def QA : List z0n → List z0n → Prop
 | [], l' => l' = []
 | .mk t v bo :: l, l' => ∃ b r, l' = b :: r ∧ (t = b.Tag ∧ v = b.Var ∧ QL bo b.Body) ∧ QA l r
end
def QArm (a b : z0n) : Prop := a.Tag = b.Tag ∧ a.Var = b.Var ∧ QL a.Body b.Body
theorem QL.rel : ∀ {l l' : List z02}, QL l l' → Rel QS l l'
 | [], l', h => by simp only [QL] at h; subst h; exact Rel.nil
 | a :: l, l', h => by
  simp only [QL] at h
  obtain ⟨b, r, rfl, h1, h2⟩ := h
  exact Rel.cons h1 (QL.rel h2)
theorem QA.rel : ∀ {l l' : List z0n}, QA l l' → Rel QArm l l'
 | [], l', h => by simp only [QA] at h; subst h; exact Rel.nil
 | .mk t v bo :: l, l', h => by
  simp only [QA] at h
  obtain ⟨b, r, rfl, h1, h2⟩ := h
  exact Rel.cons h1 (QA.rel h2)
/-! ### The program's answer -/
theorem zsd {α β : Type} {Q : α → β → Prop} {l : List α} {l' : List β} (h : Rel Q l l') : ((l.length : Int) != (l'.length : Int)) = false := by rw [h.1]; simp
mutual
theorem sm_E : ∀ (e e' : z03), QE e e' → szE e ≤ 400000000000 → ∀ n, Sn n (2 * szE e) (z4c n e e') true
 | ⟨k, m, s, l⟩, ⟨k', m', s', l'⟩, hq, hz, n => by
  simp only [szE] at hz ⊢
  simp only [QE] at hq
  obtain ⟨rfl, q1, q2, q3⟩ := hq
  have q3 := q3.rel
  have hm := z05u l (by omega)
  have hl := zoq l
  have hL : ∀ n, Sn n (2 * szEs l + 1) (z1r n l l') true := fun n => by
   cases n with
   | zero => exact .inr ⟨rfl, by omega⟩
   | succ n =>
    simp only [z1r, zsd q3, Bool.false_eq_true, if_false]
    refine (Sn.bind (f := Sum.elim (fun r => some r) (fun j1 => some true)) (zmn (O := Bool) (body := z3u (z4c n) (z1r n) l l') (n := n) (H := 2 * szEs l) q3 false (by omega) (fun i x y hx hy hq hxm hlt hw => by
     unfold z3u
     rw [if_pos (by simpa using hlt), hx]
     simp only [hy, Option.bind_eq_bind, Option.bind_some, hw]
     have := zor hxm
     exact Sn.bind (f := _) ((hm x hxm y hq n).mono (by omega)) (.inl rfl)) (by unfold z3u; rw [if_neg (by simp)])) (.inl rfl)).up
  cases n with
  | zero => exact .inr ⟨rfl, by omega⟩
  | succ n =>
   have hj : ((if (k != k) = true then some true else if (k == 1) = true then (if (m != m') = true then some true else if (k == 2) = true then some (!(s.toList == s'.toList)) else some false) else if (k == 2) = true then some (!(s.toList == s'.toList)) else some false) : Option Bool) = some false := by
    by_cases h1 : k = 1
    ·subst h1; rw [q1 rfl]; simp
    ·by_cases h2 : k = 2
     ·subst h2; rw [q2 rfl]; simp
     ·simp [h1, h2]
   simp only [z4c, hj, Option.bind_eq_bind, Option.bind_some, Bool.false_eq_true, if_false, z9z]
   exact (hL n).up.mono (by omega)
theorem z05u : ∀ (l : List z03), szEs l ≤ 400000000000 → ∀ x ∈ l, ∀ y, QE x y → ∀ n, Sn n (2 * szE x) (z4c n x y) true
 | [], hz, x, h, y, hq, n => by cases h
 | e :: r, hz, x, h, y, hq, n => by
  simp only [szEs] at hz
  rcases List.mem_cons.1 h with h | h
  ·rw [h] at hq; rw [h]; exact sm_E e y hq (by omega) n
  ·exact z05u r (by omega) x h y hq n
end
theorem sm_e {e e' : z03} (hq : QE e e') (h : szE e ≤ 400000000000) : z9u e e' = some true := Sn.unf fun n => sm_E e e' hq h n
theorem sm_c {c d : z2n} (hq : QC c d) (h : szC c ≤ 400000000000) : z7s c d = some true := by
 unfold szC at h
 unfold z7s
 rw [sm_e hq.2.1 (by omega), sm_e hq.2.2 (by omega), hq.1]
 simp
theorem zj6 {l l' : List z02} (hq : QL l l') (hz : szL l ≤ 400000000000) (h : ∀ x ∈ l, ∀ y, QS x y → ∀ n, Sn n (2 * szS x) (z33 n x y) true) (n : Nat) : Sn n (2 * szL l) (z0s n l l') true := by
 have hl := zze l
 have hp := z4y l
 have hr := hq.rel
 cases n with
 | zero => exact .inr ⟨rfl, by omega⟩
 | succ n =>
  simp only [z0s, zsd hr, Bool.false_eq_true, if_false]
  refine (Sn.bind (f := Sum.elim (fun r => some r) (fun j1 => some true)) (zmn (O := Bool) (body := z3v (z0s n) (z33 n) (z19 n) (z3p n) l l') (n := n) (H := 2 * szL l - 1) hr false (by omega) (fun i x y hx hy hq hxm hlt hw => by
   unfold z3v
   rw [if_pos (by simpa using hlt), hx]
   simp only [hy, Option.bind_eq_bind, Option.bind_some, hw]
   have := zse hxm
   exact Sn.bind (f := _) ((h x hxm y hq n).mono (by omega)) (.inl rfl)) (by unfold z3v; rw [if_neg (by simp)])) (.inl rfl)).up.mono (by omega)
theorem z034 {l l' : List z0n} (hq : QA l l') (hz : szA l ≤ 400000000000) (h : ∀ x ∈ l, ∀ y, QArm x y → ∀ n, Sn n (2 * szL x.Body + 1) (z3p n x y) true) (n : Nat) : Sn n (2 * szA l) (z19 n l l') true := by
 have hl := zqq l
 have hp := zgx l
 have hr := hq.rel
 cases n with
 | zero => exact .inr ⟨rfl, by omega⟩
 | succ n =>
  simp only [z19, zsd hr, Bool.false_eq_true, if_false]
  refine (Sn.bind (f := Sum.elim (fun r => some r) (fun j1 => some true)) (zmn (O := Bool) (body := z4d (z0s n) (z33 n) (z19 n) (z3p n) l l') (n := n) (H := 2 * szA l - 1) hr false (by omega) (fun i x y hx hy hq hxm hlt hw => by
   unfold z4d
   rw [if_pos (by simpa using hlt), hx]
   simp only [hy, Option.bind_eq_bind, Option.bind_some, hw]
   have := zsf hxm
   exact Sn.bind (f := _) ((h x hxm y hq n).mono (by omega)) (.inl rfl)) (by unfold z4d; rw [if_neg (by simp)])) (.inl rfl)).up.mono (by omega)
mutual
theorem sm_S : ∀ (s s' : z02), QS s s' → szS s ≤ 400000000000 → ∀ n, Sn n (2 * szS s) (z33 n s s') true
 | .mk k nm tg e c bo el ar, .mk k' nm' tg' e' c' bo' el' ar', hq, hz, n => by
  simp only [szS] at hz ⊢
  have p1 := z4y bo
  have hb := fun hq => zj6 (l := bo) (l' := bo') hq (by omega) (sm_L bo (by omega))
  have he := fun hq => zj6 (l := el) (l' := el') hq (by omega) (sm_L el (by omega))
  have ha := fun hq => z034 (l := ar) (l' := ar') hq (by omega) (sm_A ar (by omega))
  simp only [QS] at hq
  dsimp only [z02.Kind, z02.Name, z02.Tag, z02.E, z02.C, z02.Body, z02.Else, z02.Arms] at hq
  obtain ⟨rfl, q1, q2, q3, q4, q5, q6, q7⟩ := hq
  cases n with
  | zero => exact .inr ⟨rfl, by omega⟩
  | succ n =>
   simp only [z33]
   dsimp only [z02.Kind, z02.Name, z02.Tag, z02.E, z02.C, z02.Body, z02.Else, z02.Arms]
   simp only [zsg, Bool.false_eq_true, if_false, Option.bind_eq_bind, z9z]
   refine Sn.mono (h := 2 * (4 + szE e + szC c + szL bo + szL el + szA ar) - 1 + 1) (Sn.up ?_) (by omega)
   by_cases h1 : k = 1
   ·subst h1
    obtain ⟨rfl, qe⟩ := q1 rfl
    simp only [beq_self_eq_true, if_true, sm_e qe (by omega)]
    exact .inl rfl
   rw [if_neg (by simpa using h1)]
   by_cases h1 : k = 2
   ·subst h1
    obtain ⟨qc, qb, ql⟩ := q2 rfl
    simp only [beq_self_eq_true, if_true, sm_c qc (by omega), Option.bind_some]
    exact Sn.bind (f := _) ((hb qb n).mono (by omega)) (by simp only [if_true]; exact (he ql n).mono (by omega))
   rw [if_neg (by simpa using h1)]
   by_cases h1 : k = 3
   ·subst h1
    obtain ⟨qc, qb⟩ := q3 rfl
    simp only [beq_self_eq_true, if_true, sm_c qc (by omega), Option.bind_some]
    exact (hb qb n).mono (by omega)
   rw [if_neg (by simpa using h1)]
   by_cases h1 : k = 4
   ·subst h1
    obtain ⟨rfl, rfl, qe⟩ := q4 rfl
    simp only [beq_self_eq_true, if_true, sm_e qe (by omega)]
    exact .inl rfl
   rw [if_neg (by simpa using h1)]
   by_cases h1 : k = 5
   ·subst h1
    obtain ⟨rfl, qa⟩ := q5 rfl
    simp only [beq_self_eq_true, if_true]
    exact (ha qa n).mono (by omega)
   rw [if_neg (by simpa using h1)]
   by_cases h1 : k = 6
   ·subst h1
    simp only [beq_self_eq_true, if_true, sm_c (q6 rfl) (by omega)]
    exact .inl rfl
   rw [if_neg (by simpa using h1)]
   by_cases h1 : k = 7
   ·subst h1
    obtain rfl := q7 rfl
    simp only [beq_self_eq_true, if_true]
    exact .inl rfl
   have e7 : (k == 7) = false := by simpa using h1
   simp only [e7, Bool.false_eq_true, if_false]
   exact .inl rfl
theorem sm_L : ∀ (l : List z02), szL l ≤ 400000000000 → ∀ x ∈ l, ∀ y, QS x y → ∀ n, Sn n (2 * szS x) (z33 n x y) true
 | [], hz, x, h, y, hq, n => by cases h
 | e :: r, hz, x, h, y, hq, n => by
  simp only [szL] at hz
  rcases List.mem_cons.1 h with h | h
  ·rw [h] at hq; rw [h]; exact sm_S e y hq (by omega) n
  ·exact sm_L r (by omega) x h y hq n
theorem sm_A : ∀ (l : List z0n), szA l ≤ 400000000000 → ∀ x ∈ l, ∀ y, QArm x y → ∀ n, Sn n (2 * szL x.Body + 1) (z3p n x y) true
 | [], hz, x, h, y, hq, n => by cases h
 | .mk t v b :: r, hz, x, h, y, hq, n => by
  simp only [szA] at hz
  rcases List.mem_cons.1 h with h | h
  ·rw [h] at hq; rw [h]
   obtain ⟨t', v', b'⟩ := y
   obtain ⟨qt, qv, qb⟩ := hq
   have qt : t = t' := qt
   have qv : v = v' := qv
   subst qt; subst qv
   show Sn n (2 * szL b + 1) _ true
   have hb := zj6 (l := b) (l' := b') qb (by omega) (sm_L b (by omega))
   cases n with
   | zero => exact .inr ⟨rfl, by omega⟩
   | succ n =>
    simp only [z3p]
    dsimp only [z0n.Tag, z0n.Var, z0n.Body]
    simp only [beq_self_eq_true, if_true, Option.bind_eq_bind, z9z]
    exact (hb n).up
  ·exact sm_A r (by omega) x h y hq n
end
theorem sm_l {l l' : List z02} (hq : QL l l') (h : szL l ≤ 400000000000) : z7i l l' = some true := Sn.unf fun n => zj6 hq h (sm_L l h) n
def QP (p q : z2d) : Prop := p.Name = q.Name ∧ p.Vars = q.Vars ∧ QL p.Body q.Body
theorem z05v {s s' : z18} (h : za8 s ≤ 400000000000) (hc : s.Chans = s'.Chans) (hr : s.Rules = s'.Rules) (hp : Rel QP s.Procs s'.Procs) : zhg s s' = some true := by
 have n1 := zau (c := szCh) (fun x => by unfold szCh; omega) s.Chans
 have n2 := zau (c := szR) (fun x => by unfold szR; omega) s.Rules
 have n3 := zau (c := szP) (fun x => by unfold szP; omega) s.Procs
 unfold za8 at h
 have e1 : z5n s.Rules s.Rules = some true := by
  unfold z5n
  rw [zj7 (body := z4b s.Rules s.Rules) s.Rules false (by omega) (fun i x hx hm hlt hw => by
   have hz := zav (c := szR) hm
   unfold szR at hz
   unfold z4b zfi
   rw [if_pos (by simpa using hlt), hx]
   simp only [Option.bind_eq_bind, Option.bind_some]
   rw [zun (by unfold szR at h; omega)]
   simp [hw]) (by unfold z4b; rw [if_neg (by simp)])]
  simp
 have e2 : z5o s.Procs s'.Procs = some true := by
  unfold z5o
  rw [zsd hp, zx0 (body := z4e s.Procs s'.Procs) hp false (by omega) (fun i x y hx hy hq hm hlt hw => by
   have hz := zav (c := szP) hm
   unfold szP at hz
   unfold z4e zfj
   rw [if_pos (by simpa using hlt), hx]
   obtain ⟨q1, q2, q3⟩ := hq
   simp only [hy, Option.bind_eq_bind, Option.bind_some]
   rw [sm_l q3 (by unfold szP at h; omega), ← q1, ← q2, zos (by unfold szP at h; omega)]
   simp [hw]) (by unfold z4e; rw [if_neg (by simp)])]
  simp
 have e3 : z50 s.Chans s.Chans = some true := by
  unfold z50
  rw [zj7 (body := z3w s.Chans s.Chans) s.Chans false (by omega) (fun i x hx hm hlt hw => by
   have hz := zav (c := szCh) hm
   unfold szCh at hz
   unfold z3w zck
   rw [if_pos (by simpa using hlt), hx]
   simp only [Option.bind_eq_bind, Option.bind_some]
   rw [zos (by unfold szCh at h; omega)]
   simp [hw]) (by unfold z3w; rw [if_neg (by simp)])]
  simp
 unfold zhg
 rw [← hr, ← hc, e1, e2, e3]
 simp
/-! ### What is parsed back is alike -/
theorem qe2 {a b a' b' : z03} (h : QE a a') (h' : QE b b') : QEs [a, b] [a', b'] := by simp only [QEs]; exact ⟨_, _, rfl, h, _, _, rfl, h', rfl⟩
theorem zx1 {a b : z02} {l r : List z02} (h : QS a b) (h' : QL l r) : QL (a :: l) (b :: r) := by simp only [QL]; exact ⟨_, _, rfl, h, h'⟩
theorem zx2 {t v : ByteArray} {a b : List z02} {l r : List z0n} (h : QL a b) (h' : QA l r) : QA (.mk t v a :: l) (.mk t v b :: r) := by simp only [QA]; exact ⟨_, _, rfl, ⟨rfl, rfl, h⟩, h'⟩
theorem zj8 {e : z03} (h : (zcs e).bad = false) : e.Kids = [] ∧ (e.Kind = 1 ∨ e.Kind = 2) := by
 unfold zcs at h
 simp only [Wr.bad_app, Bool.or_eq_false_iff, Wri.wM, Bool.not_eq_false'] at h
 refine ⟨?_, ?_⟩
 ·have : e.Kids.length = 0 := by simpa using h.1
  exact List.eq_nil_of_length_eq_zero this
 ·by_cases h1 : e.Kind = 1
  ·exact .inl h1
  ·rw [if_neg (by simpa using h1)] at h
   simp only [Wr.bad_app, Bool.or_eq_false_iff, Bool.not_eq_false', beq_iff_eq] at h
   exact .inr h.2.1
theorem z035 {m : Bool} {f : Int → Wr} {p : Int} (h : (inP m f p).bad = false) : ∃ q, (f q).bad = false := by
 cases m with
 | true => simp only [inP, if_true, Wr.bad_app, Bool.or_eq_false_iff] at h; exact ⟨_, h.2.2.1⟩
 | false => exact ⟨p, h⟩
theorem zqr : ∀ (e : z03) (p : Int), (sE e p).bad = false → QE (cE (bkE e)) e ∧ QE e (cE (bkE e))
 | ⟨k, n, s, []⟩, p, h => by
  simp only [sE] at h
  obtain ⟨_, h1 | h1⟩ := zj8 h
  ·have h1 : k = 1 := h1
   subst h1
   simp [bkE, cE, cEs, QE, QEs]
  ·have h1 : k = 2 := h1
   subst h1
   simp [bkE, cE, cEs, QE, QEs]
 | ⟨k, n, s, [x]⟩, p, h => by
  simp only [sE] at h
  split at h
  ·rename_i hk
   have hk : k = 3 := by simpa using hk
   subst hk
   simp only [Wr.bad_app, Bool.or_eq_false_iff] at h
   obtain ⟨q, hq⟩ := z035 h.2.2
   have := zqr x q hq
   simp [bkE, cE, cEs, QE, QEs, this]
  ·cases (zj8 h).1
 | ⟨k, n, s, [l, r]⟩, p, h => by
  simp only [sE] at h
  split at h
  ·rename_i hk
   simp only [Wr.bad_app, Bool.or_eq_false_iff] at h
   obtain ⟨q, hq⟩ := z035 h.1
   obtain ⟨q', hq'⟩ := z035 h.2.2
   have h1 := zqr l q hq
   have h2 := zqr r q' hq'
   have h3 : k ≠ 1 ∧ k ≠ 2 := by rcases ztx hk with rfl | rfl | rfl | rfl | rfl <;> decide
   simp only [bkE, cE, cEs]
   exact ⟨by rw [QE]; exact ⟨rfl, fun h => absurd h h3.1, fun h => absurd h h3.2, qe2 h1.1 h2.1⟩, by rw [QE]; exact ⟨rfl, fun h => absurd h h3.1, fun h => absurd h h3.2, qe2 h1.2 h2.2⟩⟩
  ·cases (zj8 h).1
 | ⟨k, n, s, a :: b :: c :: l⟩, p, h => by
  simp only [sE] at h
  cases (zj8 h).1
theorem z036 {c : z2n} {p : Int} (h : (sC c p).bad = false) : QC (cC (bkC c)) c ∧ QC c (cC (bkC c)) := by
 unfold sC at h
 simp only [Wr.bad_app, Bool.or_eq_false_iff] at h
 have h1 := zqr _ _ h.2.1
 have h2 := zqr _ _ h.2.2.2.1
 exact ⟨⟨rfl, h1.1, h2.1⟩, ⟨rfl, h1.2, h2.2⟩⟩
theorem zzf {f : Int → Wr} {b : Int} (h : (inB f b).bad = false) : ∃ q, (f q).bad = false := by
 unfold inB at h
 simp only [Wr.bad_app, Bool.or_eq_false_iff] at h
 exact ⟨_, h.2.2.1⟩
mutual
theorem z085 : ∀ (s : z02) (b p : Int), (sS s b p).bad = false → QS (cS (bkS s)) s ∧ QS s (cS (bkS s))
 | .mk k n tg e c bo el ar, b, p, h => by
  have hb := fun q h => zx3 bo q p h
  have hl := fun q h => zx3 el q p h
  have ha := z05w ar b p
  simp only [sS] at h
  by_cases hk : k = 1
  ·subst hk
   simp only [beq_self_eq_true, if_true, Wr.bad_app, Bool.or_eq_false_iff] at h
   have := zqr _ _ h.2.2.1
   simp only [bkS, beq_self_eq_true, if_true, cS]
   exact ⟨by simp only [QS]; exact ⟨rfl, fun _ => ⟨rfl, this.1⟩, fun h => absurd h (by decide), fun h => absurd h (by decide), fun h => absurd h (by decide), fun h => absurd h (by decide), fun h => absurd h (by decide), fun h => absurd h (by decide)⟩,
    by simp only [QS]; exact ⟨rfl, fun _ => ⟨rfl, this.2⟩, fun h => absurd h (by decide), fun h => absurd h (by decide), fun h => absurd h (by decide), fun h => absurd h (by decide), fun h => absurd h (by decide), fun h => absurd h (by decide)⟩⟩
  rw [if_neg (by simpa using hk)] at h
  by_cases hk : k = 2
  ·subst hk
   simp only [beq_self_eq_true, if_true, Wr.bad_app, Bool.or_eq_false_iff] at h
   have hc := z036 h.2.1
   obtain ⟨q, hq⟩ := zzf h.2.2.1
   have h1 := hb q hq
   have h2 : QL (cL (bkL el)) el ∧ QL el (cL (bkL el)) := by
    cases el with
    | nil => simp [bkL, cL, QL]
    | cons s0 el =>
     have h3 := h.2.2.2
     simp only [List.isEmpty_cons, Bool.false_eq_true, if_false, Wr.bad_app, Bool.or_eq_false_iff] at h3
     obtain ⟨q, hq⟩ := zzf h3.2
     exact hl q hq
   simp only [bkS, Int.reduceBEq, Bool.false_eq_true, if_false, if_true, cS]
   exact ⟨by simp only [QS]; exact ⟨rfl, fun h => absurd h (by decide), fun _ => ⟨hc.1, h1.1, h2.1⟩, fun h => absurd h (by decide), fun h => absurd h (by decide), fun h => absurd h (by decide), fun h => absurd h (by decide), fun h => absurd h (by decide)⟩,
    by simp only [QS]; exact ⟨rfl, fun h => absurd h (by decide), fun _ => ⟨hc.2, h1.2, h2.2⟩, fun h => absurd h (by decide), fun h => absurd h (by decide), fun h => absurd h (by decide), fun h => absurd h (by decide), fun h => absurd h (by decide)⟩⟩
  rw [if_neg (by simpa using hk)] at h
  by_cases hk : k = 3
  ·subst hk
   simp only [beq_self_eq_true, if_true, Wr.bad_app, Bool.or_eq_false_iff] at h
   have hc := z036 h.2.1
   obtain ⟨q, hq⟩ := zzf h.2.2
   have h1 := hb q hq
   simp only [bkS, Int.reduceBEq, Bool.false_eq_true, if_false, if_true, cS]
   exact ⟨by simp only [QS]; exact ⟨rfl, fun h => absurd h (by decide), fun h => absurd h (by decide), fun _ => ⟨hc.1, h1.1⟩, fun h => absurd h (by decide), fun h => absurd h (by decide), fun h => absurd h (by decide), fun h => absurd h (by decide)⟩,
    by simp only [QS]; exact ⟨rfl, fun h => absurd h (by decide), fun h => absurd h (by decide), fun _ => ⟨hc.2, h1.2⟩, fun h => absurd h (by decide), fun h => absurd h (by decide), fun h => absurd h (by decide), fun h => absurd h (by decide)⟩⟩
  rw [if_neg (by simpa using hk)] at h
  by_cases hk : k = 4
  ·subst hk
   simp only [beq_self_eq_true, if_true, Wr.bad_app, Bool.or_eq_false_iff] at h
   have := zqr _ _ h.2.2.2.2.2.1
   simp only [bkS, Int.reduceBEq, Bool.false_eq_true, if_false, if_true, cS]
   exact ⟨by simp only [QS]; exact ⟨rfl, fun h => absurd h (by decide), fun h => absurd h (by decide), fun h => absurd h (by decide), fun _ => ⟨rfl, rfl, this.1⟩, fun h => absurd h (by decide), fun h => absurd h (by decide), fun h => absurd h (by decide)⟩,
    by simp only [QS]; exact ⟨rfl, fun h => absurd h (by decide), fun h => absurd h (by decide), fun h => absurd h (by decide), fun _ => ⟨rfl, rfl, this.2⟩, fun h => absurd h (by decide), fun h => absurd h (by decide), fun h => absurd h (by decide)⟩⟩
  rw [if_neg (by simpa using hk)] at h
  by_cases hk : k = 5
  ·subst hk
   simp only [beq_self_eq_true, if_true, Wr.bad_app, Bool.or_eq_false_iff] at h
   have := ha h.2.2.2.2.1
   simp only [bkS, Int.reduceBEq, Bool.false_eq_true, if_false, if_true, cS]
   exact ⟨by simp only [QS]; exact ⟨rfl, fun h => absurd h (by decide), fun h => absurd h (by decide), fun h => absurd h (by decide), fun h => absurd h (by decide), fun _ => ⟨rfl, this.1⟩, fun h => absurd h (by decide), fun h => absurd h (by decide)⟩,
    by simp only [QS]; exact ⟨rfl, fun h => absurd h (by decide), fun h => absurd h (by decide), fun h => absurd h (by decide), fun h => absurd h (by decide), fun _ => ⟨rfl, this.2⟩, fun h => absurd h (by decide), fun h => absurd h (by decide)⟩⟩
  rw [if_neg (by simpa using hk)] at h
  by_cases hk : k = 6
  ·subst hk
   simp only [beq_self_eq_true, if_true, Wr.bad_app, Bool.or_eq_false_iff] at h
   have hc := z036 h.2.1
   simp only [bkS, Int.reduceBEq, Bool.false_eq_true, if_false, if_true, cS]
   exact ⟨by simp only [QS]; exact ⟨rfl, fun h => absurd h (by decide), fun h => absurd h (by decide), fun h => absurd h (by decide), fun h => absurd h (by decide), fun h => absurd h (by decide), fun _ => hc.1, fun h => absurd h (by decide)⟩,
    by simp only [QS]; exact ⟨rfl, fun h => absurd h (by decide), fun h => absurd h (by decide), fun h => absurd h (by decide), fun h => absurd h (by decide), fun h => absurd h (by decide), fun _ => hc.2, fun h => absurd h (by decide)⟩⟩
  rw [if_neg (by simpa using hk)] at h
  by_cases hk : k = 7
  ·subst hk
   simp only [bkS, Int.reduceBEq, Bool.false_eq_true, if_false, if_true, cS]
   exact ⟨by simp only [QS]; exact ⟨rfl, fun h => absurd h (by decide), fun h => absurd h (by decide), fun h => absurd h (by decide), fun h => absurd h (by decide), fun h => absurd h (by decide), fun h => absurd h (by decide), fun _ => rfl⟩,
    by simp only [QS]; exact ⟨rfl, fun h => absurd h (by decide), fun h => absurd h (by decide), fun h => absurd h (by decide), fun h => absurd h (by decide), fun h => absurd h (by decide), fun h => absurd h (by decide), fun _ => rfl⟩⟩
  rw [if_neg (by simpa using hk)] at h
  cases h
theorem zx3 : ∀ (l : List z02) (b p : Int), (sL l b p).bad = false → QL (cL (bkL l)) l ∧ QL l (cL (bkL l))
 | [], b, p, h => by simp [bkL, cL, QL]
 | s :: l, b, p, h => by
  simp only [sL, Wr.bad_app, Bool.or_eq_false_iff] at h
  have h1 := z085 s b p h.1
  have h2 := zx3 l b p h.2
  simp only [bkL, cL]
  exact ⟨zx1 h1.1 h2.1, zx1 h1.2 h2.2⟩
theorem z05w : ∀ (l : List z0n) (b p : Int), (sA l b p).bad = false → QA (cA (bkA l)) l ∧ QA l (cA (bkA l))
 | [], b, p, h => by simp [bkA, cA, QA]
 | .mk t v bo :: l, b, p, h => by
  simp only [sA, Wr.bad_app, Bool.or_eq_false_iff] at h
  obtain ⟨q, hq⟩ := zzf h.2.2.2.2.1
  have h1 := zx3 bo q p hq
  have h2 := z05w l b p h.2.2.2.2.2
  simp only [bkA, cA]
  exact ⟨zx2 h1.1 h2.1, zx2 h1.2 h2.2⟩
end
theorem zsh {β : Type} {g : Nat → β → Wr} : ∀ {l : List β} {i : Nat}, (z6n g i l).bad = false → ∀ x ∈ l, ∃ j, (g j x).bad = false
 | y :: l, i, h, x, hx => by
  simp only [z6n, Wr.bad_app, Bool.or_eq_false_iff] at h
  rcases List.mem_cons.1 hx with rfl | hx
  ·exact ⟨i, h.1⟩
  ·exact zsh h.2 x hx
theorem z037 {s : z18} (h : (Wri.sSys s).bad = false) : (cSys (zkd s)).Chans = s.Chans ∧ (cSys (zkd s)).Rules = s.Rules ∧ Rel QP (cSys (zkd s)).Procs s.Procs ∧ Rel QP s.Procs (cSys (zkd s)).Procs := by
 unfold Wri.sSys at h
 simp only [Wr.bad_app, Bool.or_eq_false_iff] at h
 have hp : ∀ x ∈ s.Procs, QP (cPr (bkPr x)) x ∧ QP x (cPr (bkPr x)) := fun x hx => by
  obtain ⟨_, h1⟩ := zsh h.2.2 x hx
  unfold sP at h1
  simp only [Wr.bad_app, Bool.or_eq_false_iff] at h1
  have := zx3 _ _ _ h1.2.2.2.2.1
  exact ⟨⟨rfl, rfl, this.1⟩, ⟨rfl, rfl, this.2⟩⟩
 refine ⟨?_, ?_, ?_, ?_⟩
 ·simp only [cSys, zkd, List.map_map]
  exact List.map_id'' (fun x => rfl) _
 ·simp only [cSys, zkd, List.map_map]
  refine List.map_id'' (fun x => ?_) _
  obtain ⟨c, m⟩ := x
  simp only [Function.comp, bkRu, cRu, List.map_map]
  congr 1
  exact List.map_id'' (fun x => rfl) _
 ·have := Rel.map (Q := QP) (fun x => cPr (bkPr x)) (fun x => x) s.Procs (fun x hx => (hp x hx).1)
  rw [List.map_id'] at this
  simpa [cSys, zkd, List.map_map, Function.comp_def] using this
 ·have := Rel.map (Q := QP) (fun x => x) (fun x => cPr (bkPr x)) s.Procs (fun x hx => (hp x hx).2)
  rw [List.map_id'] at this
  simpa [cSys, zkd, List.map_map, Function.comp_def] using this
end Go.Proofs.YtokjbpmjdcbogaaGreatDoor.Abs.Par
/- The law ParseBlanks in plain form. -/
namespace Go.Proofs.YtokjbpmjdcbogaaGreatDoor.Abs.Par
open Go Go.RowKit Wri
set_option linter.unusedVariables false
set_option linter.unusedSimpArgs false
theorem z086 {x : Wr} (h : (endW x).2 = 0) : x.bad = false ∧ x.dp = false ∧ x.ws.length ≤ 2000 ∧ endW x = (x.ws, 0) := by
 unfold endW at *
 split at h
 ·cases h
 ·split at h
  ·cases h
  ·split at h
   ·cases h
   ·rename_i h1 h2 h3
    exact ⟨by simpa using h1, by simpa using h2, by omega, by rw [if_neg h1, if_neg h2, if_neg h3]⟩
theorem zx4 {a b : ByteArray} (h : a.size + b.size ≤ 1000000) : scat a b = some (a ++ b) := by unfold scat; rw [if_pos (by omega)]
def Bl (x : ByteArray × Bs) : Prop := ∃ b r, x.2 = b :: r ∧ (b :: r).all isB = true
theorem z05x : ∀ {l : List (ByteArray × Bs)}, (∀ x ∈ l, oneS x.1 = true ∧ Bl x) → Ch l
 | [], _ => trivial
 | x :: l, h => by
  obtain ⟨h1, b, r, h2, h3⟩ := h x (by simp)
  refine ⟨h1, by rw [h2]; exact h3, ?_, z05x fun y hy => h y (by simp [hy])⟩
  rw [h2, List.cons_append]
  simp only [List.all_cons, Bool.and_eq_true] at h3
  exact zop h3.1
def seps : List ByteArray := [(ByteArray.mk #[32]), (ByteArray.mk #[10]), (ByteArray.mk #[32, 32]), (ByteArray.mk #[32, 10, 32])]
theorem z010 {g : Int} (h0 : 0 ≤ g) : ∃ s r, rem g 4 = some r ∧ idx seps r = some s ∧ s.size ≤ 3 ∧ ∀ w, Bl (w, s.data.toList) := by
 have hr : rem g 4 = some (g.tmod 4) := by unfold rem; rw [if_neg (by decide)]
 have hm : g.tmod 4 = 0 ∨ g.tmod 4 = 1 ∨ g.tmod 4 = 2 ∨ g.tmod 4 = 3 := by
  rw [Int.tmod_eq_emod_of_nonneg h0]; omega
 rcases hm with e | e | e | e <;> rw [e] at hr
 ·exact ⟨_, 0, hr, rfl, by decide, fun w => ⟨_, _, rfl, by decide⟩⟩
 ·exact ⟨_, 1, hr, rfl, by decide, fun w => ⟨_, _, rfl, by decide⟩⟩
 ·exact ⟨_, 2, hr, rfl, by decide, fun w => ⟨_, _, rfl, by decide⟩⟩
 ·exact ⟨_, 3, hr, rfl, by decide, fun w => ⟨_, _, rfl, by decide⟩⟩
theorem zzg {a1 : List Int} (ha : ∀ x ∈ a1, 0 ≤ x) {ws : List ByteArray} {e : Int} (hw : ∀ x ∈ ws, x.size ≤ 24) (hl : ws.length ≤ 2000) : ∀ (d k : Nat) (s : ByteArray), ws.length - k = d → k ≤ ws.length → s.size ≤ 27 * k →
  ∃ t l, iter (z4g a1 (ws, e)) (s, (k : Int)) = some (.inr t) ∧ t.size ≤ 54000 ∧ l.map Prod.fst = ws.drop k ∧ t.data.toList = s.data.toList ++ txt l ∧ ∀ x ∈ l, Bl x := by
 intro d
 induction d with
 | zero =>
  intro k s hd hk hs
  have : k = ws.length := by omega
  subst this
  exact ⟨s, [], z3x (by unfold z4g; rw [if_neg (by simp)]), by omega, by simp, by simp [txt], by simp⟩
 | succ d ih =>
  intro k s hd hk hs
  have hlt : k < ws.length := by omega
  have hi : idx ws (k : Int) = some ws[k] := zf3 hlt
  have hz : (ws[k]).size ≤ 24 := hw _ (List.getElem_mem hlt)
  have hdr : ws.drop k = ws[k] :: ws.drop (k + 1) := List.drop_eq_getElem_cons hlt
  generalize ws[k] = v at hi hz hdr
  have hg : ∃ u, z4g a1 (ws, e) (s, (k : Int)) = some (.inl (s ++ v ++ u, ((k + 1 : Nat) : Int))) ∧ u.size ≤ 3 ∧ ∀ w, Bl (w, u.data.toList) := by
   have c1 : scat s v = some (s ++ v) := zx4 (by omega)
   unfold z4g
   rw [if_pos (by simpa using hlt)]
   by_cases hg : (k : Int) < (a1.length : Int)
   ·have hlt2 : k < a1.length := by omega
    have hx : idx a1 (k : Int) = some a1[k] := zf3 hlt2
    obtain ⟨u, r, h1, h2, h3, h4⟩ := z010 (ha _ (List.getElem_mem hlt2))
    have c2 : scat (s ++ v) u = some (s ++ v ++ u) := zx4 (by simp only [ByteArray.size_append]; omega)
    refine ⟨u, ?_, h3, h4⟩
    simp only [decide_eq_true hg, if_true, hx, hi, c1, h1, Option.bind_eq_bind, Option.bind_some, ze3 (i := k) (by omega)]
    rw [show idx [(ByteArray.mk #[32]), (ByteArray.mk #[10]), (ByteArray.mk #[32, 32]), (ByteArray.mk #[32, 10, 32])] r = some u from h2]
    simp only [Option.bind_some, c2]
   ·obtain ⟨u, r, h1, h2, h3, h4⟩ := z010 (g := 0) (by decide)
    have c2 : scat (s ++ v) u = some (s ++ v ++ u) := zx4 (by simp only [ByteArray.size_append]; omega)
    refine ⟨u, ?_, h3, h4⟩
    simp only [decide_eq_false hg, Bool.false_eq_true, if_false, hi, c1, h1, Option.bind_eq_bind, Option.bind_some, ze3 (i := k) (by omega)]
    rw [show idx [(ByteArray.mk #[32]), (ByteArray.mk #[10]), (ByteArray.mk #[32, 32]), (ByteArray.mk #[32, 10, 32])] r = some u from h2]
    simp only [Option.bind_some, c2]
  obtain ⟨u, hst, hu, hb⟩ := hg
  obtain ⟨t, l, h1, h2, h3, h4, h5⟩ := ih (k + 1) (s ++ v ++ u) (by omega) (by omega) (by simp only [ByteArray.size_append]; omega)
  refine ⟨t, (v, u.data.toList) :: l, by rw [zcw hst]; exact h1, h2, by rw [List.map_cons, h3, hdr], ?_, fun x hx => ?_⟩
  ·rw [h4]; simp [txt]
  ·rcases List.mem_cons.1 hx with rfl | hx
   ·exact hb v
   ·exact h5 x hx
theorem law_ParseBlanks {a0 : z16} (ho : zqs (cSys a0)) (hs : za8 (cSys a0) ≤ 400000000000) {a1 : List Int} (ha : ∀ x ∈ a1, 0 ≤ x) : za3 a0 a1 = some true := by
 unfold za3
 rw [z038 ho hs, zzh]
 simp only [Option.bind_eq_bind, Option.bind_some, Bool.not_true, Bool.false_eq_true, if_false]
 by_cases he : (endW (Wri.sSys (cSys a0))).2 = 0
 ·obtain ⟨h1, h2, h3, h4⟩ := z086 he
  obtain ⟨t, l, hit, ht, hl, htx, hbl⟩ := zzg ha (e := 0) (z05l (cSys a0) h1) h3 _ 0 (ByteArray.mk #[]) rfl (Nat.zero_le _) (by decide)
  have hit : iter (z4g a1 ((Wri.sSys (cSys a0)).ws, 0)) (ByteArray.mk #[], 0) = some (.inr t) := hit
  rw [h4]
  rw [List.drop_zero] at hl
  have hg := zzd h1 h2 h3 hl (by rw [htx]; rfl) (z05x fun x hx => ⟨z05o _ h1 x.1 (by rw [← hl]; exact List.mem_map_of_mem hx), hbl x hx⟩)
  have hz := z039 t
  rw [hg] at hz
  obtain ⟨r1, r2, r3, _⟩ := z037 h1
  have hsame := z05v (s := cSys (zkd (cSys a0))) (s' := cSys a0) (by simp only at hz; omega) r1 r2 r3
  have h0 : ((0 : Int) != 0) = false := rfl
  simp only [h0, Bool.false_eq_true, if_false, hit, Option.bind_some, Sum.elim_inr, zqt (s := t) (by omega), hg, beq_self_eq_true, if_true, z05y hs, hsame]
 ·have he' : ((endW (Wri.sSys (cSys a0))).2 != 0) = true := by simpa using he
  simp only [he', if_true, Option.bind_some]
end Go.Proofs.YtokjbpmjdcbogaaGreatDoor.Abs.Par
/- The statements' own trees, read off a row's data, with what they weigh. -/
namespace Go.Proofs.YtokjbpmjdcbogaaGreatDoor.Abs.Wri
open Go Go.RowKit
set_option linter.unusedVariables false
set_option linter.unusedSimpArgs false
theorem zmp {n : Int} (h : InK .i64 n) : in64 n := by
 have h1 := h.lo
 have h2 := h.hi
 simp [IntKind.min, IntKind.max, IntKind.signed, IntKind.bits] at h1 h2
 exact ⟨by omega, by omega⟩
mutual
def mE : z09 → Nat
 | ⟨_, _, s, l⟩ => s.size + mEs l + 4
def mEs : List z09 → Nat
 | [] => 0
 | e :: r => mE e + mEs r
end
mutual
def rgE : z09 → Prop
 | ⟨_, n, _, l⟩ => in64 n ∧ rgEs l
def rgEs : List z09 → Prop
 | [] => True
 | e :: r => rgE e ∧ rgEs r
end
theorem zx5 : ∀ l, mEs l = sumM mE l
 | [] => rfl
 | e :: r => by simp only [mEs, sumM, zx5 r]
theorem zx6 : ∀ {l : List z09}, (∀ x ∈ l, rgE x) → rgEs l
 | [], _ => trivial
 | e :: r, h => ⟨h e List.mem_cons_self, zx6 fun x hx => h x (List.mem_cons_of_mem _ hx)⟩
mutual
theorem zsi : ∀ (e : z09), rgE e → mE e ≤ 4194304 → okE (cE e) ∧ szE (cE e) ≤ mE e
 | ⟨k, n, s, l⟩, h, hm => by
  simp only [rgE] at h
  simp only [mE] at hm ⊢
  have := zx7 l h.2 (by omega)
  simp only [cE, okE, szE]
  exact ⟨⟨h.1, by omega, this.1⟩, by omega⟩
theorem zx7 : ∀ (l : List z09), rgEs l → mEs l ≤ 4194304 → okEs (cEs l) ∧ szEs (cEs l) ≤ mEs l
 | [], _, _ => ⟨trivial, Nat.le_refl _⟩
 | e :: r, h, hm => by
  simp only [rgEs] at h
  simp only [mEs] at hm ⊢
  have h1 := zsi e h.1 (by omega)
  have h2 := zx7 r h.2 (by omega)
  simp only [cEs, okEs, szEs]
  exact ⟨⟨h1.1, h2.1⟩, by omega⟩
end
mutual
def mS : z05 → Nat
 | .mk _ n t e c b l a => n.size + t.size + mE e + (mE c.L + mE c.R) + mL b + mL l + mA a + 8
def mL : List z05 → Nat
 | [] => 0
 | s :: r => mS s + mL r
def mA : List z2h → Nat
 | [] => 0
 | .mk t v b :: r => (t.size + v.size + mL b + 3) + mA r
end
def mAr (x : z2h) : Nat := x.Tag.size + x.Var.size + mL x.Body + 3
mutual
def rgS : z05 → Prop
 | .mk _ _ _ e c b l a => rgE e ∧ rgE c.L ∧ rgE c.R ∧ rgL b ∧ rgL l ∧ rgA a
def rgL : List z05 → Prop
 | [] => True
 | s :: r => rgS s ∧ rgL r
def rgA : List z2h → Prop
 | [] => True
 | .mk _ _ b :: r => rgL b ∧ rgA r
end
def rgAr (x : z2h) : Prop := rgL x.Body
theorem zsj : ∀ l, mL l = sumM mS l
 | [] => by simp only [mL, sumM]
 | e :: r => by simp only [mL, sumM, zsj r]
theorem z011 : ∀ l, mA l = sumM mAr l
 | [] => by simp only [mA, sumM]
 | .mk t v b :: r => by simp only [mA, sumM, z011 r]; rfl
theorem zot : ∀ {l : List z05}, (∀ x ∈ l, rgS x) → rgL l
 | [], _ => by simp only [rgL]
 | e :: r, h => by simp only [rgL]; exact ⟨h e List.mem_cons_self, zot fun x hx => h x (List.mem_cons_of_mem _ hx)⟩
theorem z012 : ∀ {l : List z2h}, (∀ x ∈ l, rgAr x) → rgA l
 | [], _ => by simp only [rgA]
 | .mk t v b :: r, h => by simp only [rgA]; exact ⟨h (.mk t v b) List.mem_cons_self, z012 fun x hx => h x (List.mem_cons_of_mem _ hx)⟩
mutual
theorem z05z : ∀ (s : z05), rgS s → mS s ≤ 4194304 → okS (cS s) ∧ szS (cS s) ≤ mS s
 | .mk k n t e c b l a, h, hm => by
  simp only [rgS] at h
  simp only [mS] at hm ⊢
  have h1 := zsi e h.1 (by omega)
  have h2 := zsi c.L h.2.1 (by omega)
  have h3 := zsi c.R h.2.2.1 (by omega)
  have h4 := zou b h.2.2.2.1 (by omega)
  have h5 := zou l h.2.2.2.2.1 (by omega)
  have h6 := z013 a h.2.2.2.2.2 (by omega)
  have hz : szC (cC c) = 1 + szE (cE c.L) + szE (cE c.R) := rfl
  simp only [cS, okS, szS, hz]
  exact ⟨⟨by omega, by omega, h1.1, ⟨h2.1, h3.1⟩, h4.1, h5.1, h6.1⟩, by omega⟩
theorem zou : ∀ (l : List z05), rgL l → mL l ≤ 4194304 → okL (cL l) ∧ szL (cL l) ≤ mL l + 1
 | [], _, _ => by simp only [cL, okL, szL, mL, true_and]; omega
 | s :: r, h, hm => by
  simp only [rgL] at h
  simp only [mL] at hm ⊢
  have h1 := z05z s h.1 (by omega)
  have h2 := zou r h.2 (by omega)
  simp only [cL, okL, szL]
  exact ⟨⟨h1.1, h2.1⟩, by omega⟩
theorem z013 : ∀ (l : List z2h), rgA l → mA l ≤ 4194304 → okA (cA l) ∧ szA (cA l) ≤ mA l + 1
 | [], _, _ => by simp only [cA, okA, szA, mA, true_and]; omega
 | .mk t v b :: r, h, hm => by
  simp only [rgA] at h
  simp only [mA] at hm ⊢
  have h1 := zou b h.1 (by omega)
  have h2 := z013 r h.2 (by omega)
  simp only [cA, okA, szA]
  exact ⟨⟨by omega, by omega, h1.1, h2.1⟩, by omega⟩
end
/-! ### Off the data -/
section
variable {H : Type} {enc : TypeId × Value → H} {w : World}
theorem decB_sl {T E : TypeId} {τ : Type} {e : τ → List PV} {ok : τ → Prop} {m : τ → Nat} {sz : Nat} {P : Program} (hu : P.underlying T = some (.slice E)) (hsz : P.cellsOf E = sz) (hpos : 0 < sz) (hlen : ∀ x, (e x).length = sz) {fuel : Nat} (hE : ∀ f, f < fuel → DecB P enc w f E e ok m) :
  DecB P enc w fuel T (fun l : List τ => [.sl (l.map e)]) (fun l => (∀ x ∈ l, ok x) ∧ l.length ≤ maxLen) (fun l => sumM m l + 1) := by
 cases fuel with
 | zero => exact zkl
 | succ f => exact ztf hu hsz hpos hlen (hE f (Nat.lt_succ_self f))
theorem zx8 : ∀ fuel, DecB Tryz.prog enc w fuel 43 z2u rgE mE := by
 intro fuel
 induction fuel using Nat.strongRecOn with
 | _ fuel ih =>
  cases fuel with
  | zero => exact zkl
  | succ f =>
   refine z6u (N := 4) (fun x : Int × Int × ByteArray × List z09 × Unit => z09.mk x.1 x.2.1 x.2.2.1 x.2.2.2.1) Tryz.underlying43 (by kernel_rfl)
    (z2l (sz := 1) rfl (by kernel_rfl) (zbd Tryz.underlying3 f) (z2l (sz := 1) rfl (by kernel_rfl) (zbd Tryz.underlying3 f) (z2l (sz := 1) rfl (by kernel_rfl) (z8q Tryz.underlying9 f)
     (z2l (sz := 1) rfl (by kernel_rfl) (decB_sl Tryz.underlying41 (by kernel_rfl) (by decide) zkn fun g hg => ih g (by omega)) (zbe (by decide))))))
    (fun x => by rw [z25]; rfl) (fun x h => ⟨zmp h.2.1, zx6 h.2.2.2.1.1⟩) (fun x => ?_)
   show x.2.2.1.size + mEs x.2.2.2.1 + 4 ≤ 1 + (1 + (x.2.2.1.size + 1 + (sumM mE x.2.2.2.1 + 1 + 0))) + 1
   rw [zx5]; omega
theorem z060 (fuel : Nat) : DecB Tryz.prog enc w fuel 46 z95 (fun c => rgE c.L ∧ rgE c.R) (fun c => mE c.L + mE c.R + 2) := by
 cases fuel with
 | zero => exact zkl
 | succ f =>
  refine z6u (N := 9) (fun x : Int × z09 × z09 × Unit => z3z.mk x.1 x.2.1 x.2.2.1) Tryz.underlying46 (by kernel_rfl)
   (z2l (sz := 1) rfl (by kernel_rfl) (zbd Tryz.underlying3 f) (z2l (sz := 4) rfl (by kernel_rfl) (zx8 f) (z2l (sz := 4) rfl (by kernel_rfl) (zx8 f) (zbe (by decide)))))
   (fun x => by simp only [z25]; rfl) (fun x h => ⟨h.2.1, h.2.2.1⟩) (fun x => ?_)
  show mE x.2.1 + mE x.2.2.1 + 2 ≤ 1 + (mE x.2.1 + (mE x.2.2.1 + 0)) + 1
  omega
theorem z061 : ∀ fuel, DecB Tryz.prog enc w fuel 50 z0a rgS mS := by
 intro fuel
 induction fuel using Nat.strongRecOn with
 | _ fuel ih =>
  cases fuel with
  | zero => exact zkl
  | succ f =>
   have hL : ∀ g, g ≤ f → DecB Tryz.prog enc w g 47 (fun l : List z05 => [.sl (l.map z0a)]) (fun l => (∀ x ∈ l, rgS x) ∧ l.length ≤ maxLen) (fun l => sumM mS l + 1) := fun g hg =>
    decB_sl Tryz.underlying47 (by kernel_rfl) (by decide) zft fun g' hg' => ih g' (by omega)
   have hA : ∀ g, g ≤ f → DecB Tryz.prog enc w g 151 z6r rgAr mAr := fun g hg => by
    cases g with
    | zero => exact zkl
    | succ g =>
     refine z6u (N := 3) (fun x : ByteArray × ByteArray × List z05 × Unit => z2h.mk x.1 x.2.1 x.2.2.1) Tryz.underlying151 (by kernel_rfl)
      (z2l (sz := 1) rfl (by kernel_rfl) (z8q Tryz.underlying9 g) (z2l (sz := 1) rfl (by kernel_rfl) (z8q Tryz.underlying9 g) (z2l (sz := 1) rfl (by kernel_rfl) (hL g (by omega)) (zbe (by decide)))))
      (fun x => by rw [z40]; rfl) (fun x h => zot h.2.2.1.1) (fun x => ?_)
     show x.1.size + x.2.1.size + mL x.2.2.1 + 3 ≤ x.1.size + 1 + (x.2.1.size + 1 + (sumM mS x.2.2.1 + 1 + 0)) + 1
     rw [zsj]; omega
   refine z6u (N := 19) (fun x : Int × ByteArray × ByteArray × z09 × z3z × List z05 × List z05 × List z2h × Unit => z05.mk x.1 x.2.1 x.2.2.1 x.2.2.2.1 x.2.2.2.2.1 x.2.2.2.2.2.1 x.2.2.2.2.2.2.1 x.2.2.2.2.2.2.2.1) Tryz.underlying50 (by kernel_rfl)
    (z2l (sz := 1) rfl (by kernel_rfl) (zbd Tryz.underlying3 f) (z2l (sz := 1) rfl (by kernel_rfl) (z8q Tryz.underlying9 f) (z2l (sz := 1) rfl (by kernel_rfl) (z8q Tryz.underlying9 f)
     (z2l (sz := 4) rfl (by kernel_rfl) (zx8 f) (z2l (sz := 9) rfl (by kernel_rfl) (z060 f) (z2l (sz := 1) rfl (by kernel_rfl) (hL f (Nat.le_refl f)) (z2l (sz := 1) rfl (by kernel_rfl) (hL f (Nat.le_refl f))
      (z2l (sz := 1) rfl (by kernel_rfl) (decB_sl Tryz.underlying48 (by kernel_rfl) (by decide) zma fun g hg => hA g (by omega)) (zbe (by decide))))))))))
    (fun x => by rw [z7z]; simp only [z25, z95]; rfl) (fun x h => ?_) (fun x => ?_)
   ·simp only [rgS]
    exact ⟨h.2.2.2.1, h.2.2.2.2.1.1, h.2.2.2.2.1.2, zot h.2.2.2.2.2.1.1, zot h.2.2.2.2.2.2.1.1, z012 h.2.2.2.2.2.2.2.1.1⟩
   ·simp only [mS, zsj, z011]; omega
theorem z062 (fuel : Nat) : DecB Tryz.prog enc w fuel 47 (fun l : List z05 => [.sl (l.map z0a)]) (fun l => (∀ x ∈ l, rgS x) ∧ l.length ≤ maxLen) (fun l => sumM mS l + 1) :=
 decB_sl Tryz.underlying47 (by kernel_rfl) (by decide) zft fun g hg => z061 g
end
end Go.Proofs.YtokjbpmjdcbogaaGreatDoor.Abs.Wri
/- The statements' own systems, read off a row's data, with what they weigh; AstExprs, AstTexts by it. -/
namespace Go.Proofs.YtokjbpmjdcbogaaGreatDoor.Abs.Wri
open Go Go.RowKit
set_option linter.unusedVariables false
set_option linter.unusedSimpArgs false
theorem zfk {β : Type} {m : β → Nat} : ∀ {l : List β} {x : β}, x ∈ l → m x ≤ sumM m l
 | y :: r, x, h => by
  rcases List.mem_cons.1 h with rfl | h
  ·simp only [sumM]; omega
  ·have := zfk (m := m) h; simp only [sumM]; omega
theorem zmq {β : Type} {m : β → Nat} (h : ∀ x, 1 ≤ m x) : ∀ l : List β, l.length ≤ sumM m l
 | [] => by simp
 | x :: r => by have := zmq h r; have := h x; simp only [sumM, List.length_cons]; omega
def mT (s : ByteArray) : Nat := s.size + 1
theorem z014 {l : List ByteArray} {x : ByteArray} (h : x ∈ l) : x.size + 1 ≤ sumM mT l := zfk (m := mT) h
theorem z015 (l : List ByteArray) : l.length ≤ sumM mT l := zmq (fun x => by unfold mT; omega) l
def mCh (c : z5b) : Nat := c.Name.size + c.From.size + c.To.size + sumM mT c.Tags + 6
def mMo (m : z7j) : Nat := m.Tag.size + 3
def mRu (r : z5p) : Nat := r.Chan.size + sumM mMo r.Moves + 2
def mPr (p : z4q) : Nat := p.Name.size + sumM mT p.Vars + mL p.Body + 3
def mSys (s : z16) : Nat := sumM mCh s.Chans + sumM mRu s.Rules + sumM mPr s.Procs + 3
def rgMo (m : z7j) : Prop := in64 m.From ∧ in64 m.To
def z063 (s : z16) : Prop := (∀ c ∈ s.Chans, in64 c.Size) ∧ (∀ r ∈ s.Rules, ∀ m ∈ r.Moves, rgMo m) ∧ (∀ p ∈ s.Procs, rgL p.Body)
theorem zhm {β : Type} {c m : β → Nat} : ∀ {l : List β}, (∀ x ∈ l, c x ≤ m x) → sumN c l ≤ sumM m l
 | [], _ => Nat.le_refl _
 | x :: r, h => by
  have h1 := h x List.mem_cons_self
  have h2 := zhm (l := r) fun y hy => h y (List.mem_cons_of_mem _ hy)
  simp only [sumN, sumM]; omega
theorem okSys_of {s : z16} (h : z063 s) (hm : mSys s ≤ 1048576) : zqs (cSys s) ∧ za8 (cSys s) ≤ 2000000 := by
 obtain ⟨h1, h2, h3⟩ := h
 unfold mSys at hm
 have c1 : ∀ c ∈ s.Chans, mCh c ≤ 1048576 := fun c hc => by have := zfk (m := mCh) hc; omega
 have c2 : ∀ c ∈ s.Rules, mRu c ≤ 1048576 := fun c hc => by have := zfk (m := mRu) hc; omega
 have c3 : ∀ c ∈ s.Procs, mPr c ≤ 1048576 := fun c hc => by have := zfk (m := mPr) hc; omega
 have k3 : ∀ p ∈ s.Procs, okL (cL p.Body) ∧ szL (cL p.Body) ≤ mL p.Body + 1 := fun p hp => zou p.Body (h3 p hp) (by have := c3 p hp; unfold mPr at this; omega)
 refine ⟨⟨?_, ?_, ?_⟩, ?_⟩
 ·intro c hc
  obtain ⟨x, hx, rfl⟩ := List.mem_map.1 hc
  have := c1 x hx
  unfold mCh at this
  refine ⟨?_, ?_, ?_, h1 x hx, fun t ht => ?_⟩
  ·show x.Name.size ≤ _; omega
  ·show x.From.size ≤ _; omega
  ·show x.To.size ≤ _; omega
  ·have h7 := z014 (l := x.Tags) ht; omega
 ·intro c hc
  obtain ⟨x, hx, rfl⟩ := List.mem_map.1 hc
  have := c2 x hx
  unfold mRu at this
  refine ⟨?_, fun m hm => ?_⟩
  ·show x.Chan.size ≤ _; omega
  ·obtain ⟨y, hy, rfl⟩ := List.mem_map.1 hm
   have h4 := h2 x hx y hy
   have h5 := zfk (m := mMo) hy
   have h6 : mMo y = y.Tag.size + 3 := rfl
   refine ⟨h4.1, ?_, h4.2⟩
   show y.Tag.size ≤ _; omega
 ·intro c hc
  obtain ⟨x, hx, rfl⟩ := List.mem_map.1 hc
  have := c3 x hx
  unfold mPr at this
  refine ⟨?_, fun v hv => ?_, (k3 x hx).1⟩
  ·show x.Name.size ≤ _; omega
  ·have h7 := z014 (l := x.Vars) hv; omega
 ·unfold za8
  simp only [cSys]
  rw [zcl, zcl, zcl]
  have s1 : sumN (fun x => szCh (cCh x)) s.Chans ≤ sumM mCh s.Chans := zhm fun x hx => by
   have := z015 x.Tags
   show 3 + x.Tags.length ≤ _
   unfold mCh; omega
  have s2 : sumN (fun x => szR (cRu x)) s.Rules ≤ sumM mRu s.Rules := zhm fun x hx => by
   have := zmq (m := mMo) (fun x => by unfold mMo; omega) x.Moves
   show 1 + (x.Moves.map cMo).length ≤ _
   rw [List.length_map]
   unfold mRu; omega
  have s3 : sumN (fun x => szP (cPr x)) s.Procs ≤ sumM mPr s.Procs := zhm fun x hx => by
   have := z015 x.Vars
   have := (k3 x hx).2
   show 1 + x.Vars.length + szL (cL x.Body) ≤ _
   unfold mPr; omega
  omega
section
variable {H : Type} {enc : TypeId × Value → H} {w : World}
theorem zov (fuel : Nat) : DecB Tryz.prog enc w fuel 51 (fun l : List ByteArray => [.sl (l.map z1d)]) (fun l => (∀ x ∈ l, x.size ≤ maxLen) ∧ l.length ≤ maxLen) (fun l => sumM mT l + 1) :=
 decB_sl (e := z1d) (ok := fun s => s.size ≤ maxLen) (m := mT) Tryz.underlying51 (by kernel_rfl) (by decide) (fun _ => rfl) fun g hg => z8q Tryz.underlying9 g
theorem z03a (fuel : Nat) : DecB Tryz.prog enc w fuel 90 z4u (fun c => in64 c.Size) mCh := by
 cases fuel with
 | zero => exact zkl
 | succ f =>
  refine z6u (N := 6) (fun x : ByteArray × Int × Int × ByteArray × ByteArray × List ByteArray × Unit => z5b.mk x.1 x.2.1 x.2.2.1 x.2.2.2.1 x.2.2.2.2.1 x.2.2.2.2.2.1) Tryz.underlying90 (by kernel_rfl)
   (z2l (sz := 1) rfl (by kernel_rfl) (z8q Tryz.underlying9 f) (z2l (sz := 1) rfl (by kernel_rfl) (zbd Tryz.underlying3 f) (z2l (sz := 1) rfl (by kernel_rfl) (zbd Tryz.underlying3 f)
    (z2l (sz := 1) rfl (by kernel_rfl) (z8q Tryz.underlying9 f) (z2l (sz := 1) rfl (by kernel_rfl) (z8q Tryz.underlying9 f) (z2l (sz := 1) rfl (by kernel_rfl) (zov f) (zbe (by decide))))))))
   (fun x => rfl) (fun x h => zmp h.2.2.1) (fun x => ?_)
  show x.1.size + x.2.2.2.1.size + x.2.2.2.2.1.size + sumM mT x.2.2.2.2.2.1 + 6 ≤ x.1.size + 1 + (1 + (1 + (x.2.2.2.1.size + 1 + (x.2.2.2.2.1.size + 1 + (sumM mT x.2.2.2.2.2.1 + 1 + 0))))) + 1
  omega
theorem z03b (fuel : Nat) : DecB Tryz.prog enc w fuel 98 z66 rgMo mMo := by
 cases fuel with
 | zero => exact zkl
 | succ f =>
  refine z6u (N := 3) (fun x : Int × ByteArray × Int × Unit => z7j.mk x.1 x.2.1 x.2.2.1) Tryz.underlying98 (by kernel_rfl)
   (z2l (sz := 1) rfl (by kernel_rfl) (zbd Tryz.underlying3 f) (z2l (sz := 1) rfl (by kernel_rfl) (z8q Tryz.underlying9 f) (z2l (sz := 1) rfl (by kernel_rfl) (zbd Tryz.underlying3 f) (zbe (by decide)))))
   (fun x => rfl) (fun x h => ⟨zmp h.1, zmp h.2.2.1⟩) (fun x => ?_)
  show x.2.1.size + 3 ≤ 1 + (x.2.1.size + 1 + (1 + 0)) + 1
  omega
theorem z03c (fuel : Nat) : DecB Tryz.prog enc w fuel 95 z3m (fun r => ∀ m ∈ r.Moves, rgMo m) mRu := by
 cases fuel with
 | zero => exact zkl
 | succ f =>
  refine z6u (N := 2) (fun x : ByteArray × List z7j × Unit => z5p.mk x.1 x.2.1) Tryz.underlying95 (by kernel_rfl)
   (z2l (sz := 1) rfl (by kernel_rfl) (z8q Tryz.underlying9 f) (z2l (sz := 1) rfl (by kernel_rfl) (decB_sl (e := z66) (sz := 3) Tryz.underlying93 (by kernel_rfl) (by decide) (fun _ => rfl) fun g hg => z03b g) (zbe (by decide))))
   (fun x => rfl) (fun x h => h.2.1.1) (fun x => ?_)
  show x.1.size + sumM mMo x.2.1 + 2 ≤ x.1.size + 1 + (sumM mMo x.2.1 + 1 + 0) + 1
  omega
theorem z03d (fuel : Nat) : DecB Tryz.prog enc w fuel 53 z48 (fun p => rgL p.Body) mPr := by
 cases fuel with
 | zero => exact zkl
 | succ f =>
  refine z6u (N := 3) (fun x : ByteArray × List ByteArray × List z05 × Unit => z4q.mk x.1 x.2.1 x.2.2.1) Tryz.underlying53 (by kernel_rfl)
   (z2l (sz := 1) rfl (by kernel_rfl) (z8q Tryz.underlying9 f) (z2l (sz := 1) rfl (by kernel_rfl) (zov f) (z2l (sz := 1) rfl (by kernel_rfl) (z062 f) (zbe (by decide)))))
   (fun x => rfl) (fun x h => zot h.2.2.1.1) (fun x => ?_)
  show x.1.size + sumM mT x.2.1 + mL x.2.2.1 + 3 ≤ x.1.size + 1 + (sumM mT x.2.1 + 1 + (sumM mS x.2.2.1 + 1 + 0)) + 1
  rw [zsj]; omega
theorem decB_Sys (fuel : Nat) : DecB Tryz.prog enc w fuel 34 z0o z063 mSys := by
 cases fuel with
 | zero => exact zkl
 | succ f =>
  refine z6u (N := 3) (fun x : List z5b × List z5p × List z4q × Unit => z16.mk x.1 x.2.1 x.2.2.1) Tryz.underlying34 (by kernel_rfl)
   (z2l (sz := 1) rfl (by kernel_rfl) (decB_sl (e := z4u) (sz := 6) Tryz.underlying30 (by kernel_rfl) (by decide) (fun _ => rfl) fun g hg => z03a g) (z2l (sz := 1) rfl (by kernel_rfl) (decB_sl (e := z3m) (sz := 2) Tryz.underlying31 (by kernel_rfl) (by decide) (fun _ => rfl) fun g hg => z03c g)
    (z2l (sz := 1) rfl (by kernel_rfl) (decB_sl (e := z48) (sz := 3) Tryz.underlying32 (by kernel_rfl) (by decide) (fun _ => rfl) fun g hg => z03d g) (zbe (by decide)))))
   (fun x => rfl) (fun x h => ⟨h.1.1, h.2.1.1, h.2.2.1.1⟩) (fun x => ?_)
  show sumM mCh x.1 + sumM mRu x.2.1 + sumM mPr x.2.2.1 + 3 ≤ sumM mCh x.1 + 1 + (sumM mRu x.2.1 + 1 + (sumM mPr x.2.2.1 + 1 + 0)) + 1
  omega
end
end Go.Proofs.YtokjbpmjdcbogaaGreatDoor.Abs.Wri
