/- One word, and what follows a blank. -/
import Derived.Test.YtokjbpmjdcbogaaGreatDoorPlB
import Derived.Test.YtokjbpmjdcbogaaGreatDoorParT
namespace Go.Proofs.YtokjbpmjdcbogaaGreatDoor.Abs.Wri
open Go Go.RowKit
set_option linter.unusedVariables false
set_option linter.unusedSimpArgs false
/-- A text that is one word. -/
def oneW (w : Bs) (x : W) : Prop := zaj w = .ok x ∧ x.len = w.length
end Go.Proofs.YtokjbpmjdcbogaaGreatDoor.Abs.Wri
/- A name is one word. -/
namespace Go.Proofs.YtokjbpmjdcbogaaGreatDoor.Abs.Wri
open Go Go.RowKit
set_option linter.unusedVariables false
set_option linter.unusedSimpArgs false
theorem zkr : ∀ (n : Nat) (l : Bs) (p : Nat), l.length ≤ n → ∀ t ∈ (lexS l p).1, t.text.length ≤ l.length := by
 intro n
 induction n with
 | zero =>
  intro l p h t ht
  have : l = [] := List.eq_nil_of_length_eq_zero (by omega)
  subst this
  rw [lexS] at ht; cases ht
 | succ n ih =>
  intro l p h t ht
  cases l with
  | nil => rw [lexS] at ht; cases ht
  | cons b r =>
   simp only [List.length_cons] at h ⊢
   rw [lexS] at ht
   split at ht
   ·have := ih r _ (by omega) t ht; omega
   ·split at ht
    ·cases ht
    ·rename_i w hw
     simp only [List.mem_cons] at ht
     rcases ht with rfl | ht
     ·simp only [List.length_take, List.length_cons]; omega
     ·have := ih (r.drop (w.len - 1)) _ (by simp; omega) t ht
      simp only [List.length_drop] at this; omega
theorem zqi {s : ByteArray} (h : zoe s = true) : ∃ x, oneW s.data.toList x ∧ x.kind = 1 ∧ ∀ b ∈ s.data.toList.head?, isB b = false := by
 unfold zoe at h
 simp only [Bool.and_eq_true] at h
 obtain ⟨_, h3⟩ := h
 have hs := zkr s.data.toList.length s.data.toList
 unfold finT at h3
 generalize hl : s.data.toList = l at *
 split at h3
 ·rename_i t r he
  simp only [Bool.and_eq_true, beq_iff_eq] at h3
  obtain ⟨hk, ht⟩ := h3
  unfold told at he
  split at he
  ·cases he
  ·split at he
   ·cases he
   ·cases l with
    | nil => rw [lexS] at he; cases he
    | cons b q =>
     have hb : isB b = false := by
      cases hb : isB b with
      | false => rfl
      | true =>
       rw [lexS, if_pos hb] at he
       cases hz : (lexS q (0 + 1)).1 with
       | nil => rw [hz] at he; cases he
       | cons t' r' =>
        rw [hz] at he
        injection he with he1 he2
        subst he1
        have h4 := zkr q.length q (0 + 1) (Nat.le_refl _) t' (by rw [hz]; simp)
        rw [Go.ByteArray.toList_eq, Go.ByteArray.toList_eq, hl] at ht
        have ht : t'.text = b :: q := by simpa [tokT] using ht
        rw [ht] at h4; simp at h4; omega
     rw [lexS] at he
     simp only [hb, Bool.false_eq_true, if_false] at he
     cases hw : zaj (b :: q) with
     | error e => rw [hw] at he; cases he
     | ok w =>
      rw [hw] at he
      simp only [List.map_cons] at he
      injection he with he1 he2
      subst he1
      rw [Go.ByteArray.toList_eq, Go.ByteArray.toList_eq, hl] at ht
      have ht : (b :: q).take w.len = b :: q := by simpa [tokT] using ht
      have h1 := congrArg List.length ht
      have h2 := (zev hw).2
      rw [List.length_take] at h1
      exact ⟨w, ⟨hw, by omega⟩, hk, fun c hc => by simp at hc; subst hc; exact hb⟩
 ·cases h3
end Go.Proofs.YtokjbpmjdcbogaaGreatDoor.Abs.Wri
/- A number's numeral is one word. -/
namespace Go.Proofs.YtokjbpmjdcbogaaGreatDoor.Abs.Wri
open Go Go.RowKit
set_option linter.unusedVariables false
set_option linter.unusedSimpArgs false
theorem zof (d : Nat) (h : d < 10) : isD (UInt8.ofNat (48 + d)) = true ∧ (UInt8.ofNat (48 + d)).toNat - 48 = d ∧ (UInt8.ofNat (48 + d) = 48 → d = 0) ∧ isL (UInt8.ofNat (48 + d)) = false ∧ isA (UInt8.ofNat (48 + d)) = true ∧ isB (UInt8.ofNat (48 + d)) = false := by
 have : d = 0 ∨ d = 1 ∨ d = 2 ∨ d = 3 ∨ d = 4 ∨ d = 5 ∨ d = 6 ∨ d = 7 ∨ d = 8 ∨ d = 9 := by omega
 rcases this with rfl | rfl | rfl | rfl | rfl | rfl | rfl | rfl | rfl | rfl <;> decide
theorem zog (t : Bs) (b : UInt8) : dval (t ++ [b]) = 10 * dval t + (b.toNat - 48) := by simp [dval, List.foldl_append]
theorem zoh : ∀ u : Nat, dval (Lib.decDigits u) = u ∧ (∀ b ∈ Lib.decDigits u, isD b = true ∧ isL b = false ∧ isA b = true ∧ isB b = false) ∧ Lib.decDigits u ≠ [] ∧ ((Lib.decDigits u).head? = some 48 → u = 0) := by
 intro u
 induction u using Nat.strongRecOn with
 | _ u ih =>
 by_cases h : u < 10
 ·have hd := zof u h
  rw [Lib.decDigits, dif_pos h]
  refine ⟨by simp only [dval, List.foldl_cons, List.foldl_nil]; omega, fun b hb => ?_, by simp, fun hh => ?_⟩
  ·rw [List.mem_singleton] at hb; subst hb; exact ⟨hd.1, hd.2.2.2.1, hd.2.2.2.2.1, hd.2.2.2.2.2⟩
  ·rw [List.head?_cons, Option.some.injEq] at hh; exact hd.2.2.1 hh
 ·have hd := zof (u % 10) (by omega)
  obtain ⟨h1, h2, h3, h4⟩ := ih (u / 10) (by omega)
  rw [Lib.decDigits, dif_neg h]
  refine ⟨by rw [zog, h1, hd.2.1]; omega, fun b hb => ?_, by simp, fun hh => ?_⟩
  ·rcases List.mem_append.1 hb with hb | hb
   ·exact h2 b hb
   ·rw [List.mem_singleton] at hb; subst hb; exact ⟨hd.1, hd.2.2.2.1, hd.2.2.2.2.1, hd.2.2.2.2.2⟩
  ·cases hq : Lib.decDigits (u / 10) with
   | nil => exact absurd hq h3
   | cons b r =>
    rw [hq] at hh h4
    have := h4 (by simpa using hh)
    omega
theorem zks : ∀ w : Bs, (∀ b ∈ w, isA b = true) → runL w = w.length
 | [], _ => rfl
 | b :: r, h => by rw [z9n, if_pos (h b (by simp)), zks r (fun c hc => h c (by simp [hc]))]; rfl
theorem ztu (u : Nat) (hu : u ≤ 2147483647) : oneW (Lib.decDigits u) ⟨2, (Lib.decDigits u).length, u⟩ ∧ ∀ b ∈ (Lib.decDigits u).head?, isB b = false := by
 obtain ⟨h1, h2, h3, h4⟩ := zoh u
 have hr := zks _ (fun b hb => (h2 b hb).2.2.1)
 have hall : (Lib.decDigits u).all isD = true := List.all_eq_true.2 fun b hb => (h2 b hb).1
 have hlen : (Lib.decDigits u).length ≤ 10 ∧ ((Lib.decDigits u).head? = some 48 → (Lib.decDigits u).length = 1) := by
  by_cases h0 : u = 0
  ·subst h0; rw [Lib.decDigits, dif_pos (by omega)]; exact ⟨by simp, fun _ => by simp⟩
  ·cases hq : Lib.decDigits u with
   | nil => exact absurd hq h3
   | cons c r =>
    rw [hq] at h1 h2 h4
    exact ⟨zkt c r (h2 c (by simp)).1 (fun hc => h0 (h4 (by simp [hc]))) (by omega), fun hh => absurd (h4 hh) h0⟩
 cases hq : Lib.decDigits u with
 | nil => exact absurd hq h3
 | cons c r =>
  rw [hq] at h1 h2 hr hall hlen
  have hc := h2 c (by simp)
  have ht : (c :: r).take (c :: r).length = c :: r := by simp
  refine ⟨⟨?_, rfl⟩, fun b hb => by simp at hb; subst hb; exact hc.2.2.2⟩
  rw [zbh, if_neg (by rw [hc.2.1]; decide), if_pos hc.1, hr, ht]
  have hok : zjd (c :: r) = true := by
   unfold zjd
   simp only [Bool.and_eq_true, decide_eq_true_eq, hall, Bool.not_eq_true', Bool.and_eq_false_iff, decide_eq_false_iff_not]
   refine ⟨⟨⟨hlen.1, ?_⟩, trivial⟩, by omega⟩
   by_cases h48 : (c :: r).head? = some 48
   ·left; have := hlen.2 h48; omega
   ·right; simpa using h48
  rw [if_pos hok, h1]
theorem zqj {n : Int} (h : zqk n = true) : oneW (zj7 n).data.toList ⟨2, (zj7 n).data.toList.length, n.toNat⟩ ∧ ∀ b ∈ (zj7 n).data.toList.head?, isB b = false := by
 unfold zqk at h
 simp only [Bool.and_eq_true, decide_eq_true_eq] at h
 have e : (zj7 n).data.toList = Lib.decDigits n.toNat := by
  unfold zj7 Lib.itoa
  rw [if_neg (by omega)]
 rw [e]
 exact ztu n.toNat (by omega)
end Go.Proofs.YtokjbpmjdcbogaaGreatDoor.Abs.Wri
/- Words that may be written are words that are read. -/
namespace Go.Proofs.YtokjbpmjdcbogaaGreatDoor.Abs.Wri
open Go Go.RowKit
set_option linter.unusedVariables false
set_option linter.unusedSimpArgs false
/-- Is it one word that begins with no blank? -/
def oneS (s : ByteArray) : Bool := match zaj s.data.toList with
 | .ok x => x.len == s.data.toList.length && !((s.data.toList.head?.map isB).getD true)
 | .error _ => false
theorem ztv {s : ByteArray} (h : oneS s = true) : ∃ x, oneW s.data.toList x ∧ ∀ b ∈ s.data.toList.head?, isB b = false := by
 unfold oneS at h
 cases hw : zaj s.data.toList with
 | error e => rw [hw] at h; cases h
 | ok x =>
  rw [hw] at h
  simp only [Bool.and_eq_true, beq_iff_eq] at h
  refine ⟨x, ⟨hw, h.1⟩, fun b hb => ?_⟩
  have h2 := h.2
  rw [Option.mem_def.1 hb] at h2
  simpa using h2
def Ow (x : Wr) : Prop := x.bad = false → ∀ w ∈ x.ws, oneS w = true
theorem Ow.app {x y : Wr} (hx : Ow x) (hy : Ow y) : Ow (x ++ y) := fun h w hw => by
 simp only [Wr.app_def, Bool.or_eq_false_iff] at h
 simp only [Wr.ws_app, List.mem_append] at hw
 rcases hw with hw | hw
 ·exact hx h.1 w hw
 ·exact hy h.2 w hw
end Go.Proofs.YtokjbpmjdcbogaaGreatDoor.Abs.Wri
/- With more fuel the same is read; reading told without fuel. -/
namespace Go.Proofs.YtokjbpmjdcbogaaGreatDoor.Abs.Par
open Go Go.RowKit Wri
set_option linter.unusedVariables false
set_option linter.unusedSimpArgs false
theorem bind_mono {α β : Type} {o o' : Rs α} {k k' : α → List Tok → Rs β} (h : o.bind k ≠ .out) (h1 : o ≠ .out → o' = o) (h2 : ∀ v r, k v r ≠ .out → k' v r = k v r) : o'.bind k' = o.bind k := by
 cases o with
 | ok v r => rw [h1 (by simp)]; exact h2 v r h
 | er c p => rw [h1 (by simp)]; rfl
 | out => exact absurd rfl h
structure Mo (L : Int) (f g : Nat) : Prop where
 fac : ∀ d ts, z5d L f d ts ≠ .out → z5d L g d ts = z5d L f d ts
 mul : ∀ d e ts, sMul L f d e ts ≠ .out → sMul L g d e ts = sMul L f d e ts
 term : ∀ d ts, z9o L f d ts ≠ .out → z9o L g d ts = z9o L f d ts
 add : ∀ d e ts, sAdd L f d e ts ≠ .out → sAdd L g d e ts = sAdd L f d e ts
 exp : ∀ d ts, z9p L f d ts ≠ .out → z9p L g d ts = z9p L f d ts
theorem mo (L : Int) : ∀ f g, f ≤ g → Mo L f g := by
 intro f
 induction f with
 | zero => intro g _; exact ⟨fun d ts h => (h (by simp only [z5d])).elim, fun d e ts h => (h (by simp only [sMul])).elim, fun d ts h => (h (by simp only [z9o])).elim, fun d e ts h => (h (by simp only [sAdd])).elim, fun d ts h => (h (by simp only [z9p])).elim⟩
 | succ f ih =>
  intro g hg
  cases g with
  | zero => omega
  | succ g =>
   have ih := ih g (by omega)
   refine ⟨fun d ts h => ?_, fun d e ts h => ?_, fun d ts h => ?_, fun d e ts h => ?_, fun d ts h => ?_⟩
   ·simp only [z5d] at h ⊢
    by_cases h1 : z30 (ByteArray.mk #[45]) ts = true
    ·rw [if_pos h1, if_pos h1]; rw [if_pos h1] at h
     by_cases h2 : d = 24
     ·rw [if_pos h2, if_pos h2]
     ·rw [if_neg h2, if_neg h2]; rw [if_neg h2] at h
      exact bind_mono h (ih.fac _ _) (fun v r _ => rfl)
    ·rw [if_neg h1, if_neg h1]; rw [if_neg h1] at h
     by_cases h1 : z30 (ByteArray.mk #[40]) ts = true
     ·rw [if_pos h1, if_pos h1]; rw [if_pos h1] at h
      by_cases h2 : d = 24
      ·rw [if_pos h2, if_pos h2]
      ·rw [if_neg h2, if_neg h2]; rw [if_neg h2] at h
       exact bind_mono h (ih.exp _ _) (fun v r _ => rfl)
     ·rw [if_neg h1, if_neg h1]
   ·simp only [sMul] at h ⊢
    cases hj : z3s mulS ts with
    | none => rfl
    | some j => rw [hj] at h; exact bind_mono h (ih.fac _ _) (fun v r hk => ih.mul _ _ _ hk)
   ·simp only [z9o] at h ⊢
    exact bind_mono h (ih.fac _ _) (fun v r hk => ih.mul _ _ _ hk)
   ·simp only [sAdd] at h ⊢
    cases hj : z3s addS ts with
    | none => rfl
    | some j => rw [hj] at h; exact bind_mono h (ih.term _ _) (fun v r hk => ih.add _ _ _ hk)
   ·simp only [z9p] at h ⊢
    exact bind_mono h (ih.term _ _) (fun v r hk => ih.add _ _ _ hk)
structure MoS (L : Int) (f g : Nat) : Prop where
 stmts : ∀ i ts, z61 L f i ts ≠ .out → z61 L g i ts = z61 L f i ts
 stmt : ∀ i ts, z88 L f i ts ≠ some .out → z88 L g i ts = z88 L f i ts
 arm : ∀ i ts, sArm L f i ts ≠ .out → sArm L g i ts = sArm L f i ts
 arms : ∀ i ts, zak L f i ts ≠ .out → zak L g i ts = zak L f i ts
 block : ∀ i ts, z7g L f i ts ≠ .out → z7g L g i ts = z7g L f i ts
theorem zje {α : Type} {x : Rs α} (h : some x ≠ some .out) : x ≠ .out := fun e => h (by rw [e])
theorem moS (L : Int) : ∀ f g, f ≤ g → MoS L f g := by
 intro f
 induction f with
 | zero => intro g _; exact ⟨fun d ts h => (h (by simp only [z61])).elim, fun d ts h => (h (by simp only [z88])).elim, fun d ts h => (h (by simp only [sArm])).elim, fun d ts h => (h (by simp only [zak])).elim, fun d ts h => (h (by simp only [z7g])).elim⟩
 | succ f ih =>
  intro g hg
  cases g with
  | zero => omega
  | succ g =>
   have ih := ih g (by omega)
   refine ⟨fun i ts h => ?_, fun i ts h => ?_, fun i ts h => ?_, fun i ts h => ?_, fun i ts h => ?_⟩
   ·simp only [z61] at h ⊢
    have hs : z88 L f i ts ≠ some .out := fun e => by rw [e] at h; exact h rfl
    rw [ih.stmt i ts hs]
    cases ho : z88 L f i ts with
    | none => rfl
    | some o => rw [ho] at h; exact bind_mono h (fun _ => rfl) (fun v r hk => bind_mono hk (ih.stmts _ _) (fun _ _ _ => rfl))
   ·simp only [z88] at h ⊢
    by_cases h1 : z30 (ByteArray.mk #[105, 102]) ts = true
    ·rw [if_pos h1, if_pos h1]; rw [if_pos h1] at h
     refine congrArg some (bind_mono (zje h) (fun _ => rfl) fun c r1 h2 => bind_mono h2 (ih.block _ _) fun b r2 h3 => ?_)
     by_cases h4 : z30 (ByteArray.mk #[101, 108, 115, 101]) r2 = true
     ·rw [if_pos h4, if_pos h4]; rw [if_pos h4] at h3
      exact bind_mono h3 (ih.block _ _) (fun _ _ _ => rfl)
     ·rw [if_neg h4, if_neg h4]
    rw [if_neg h1, if_neg h1]; rw [if_neg h1] at h
    by_cases h1 : z30 (ByteArray.mk #[119, 104, 105, 108, 101]) ts = true
    ·rw [if_pos h1, if_pos h1]; rw [if_pos h1] at h
     exact congrArg some (bind_mono (zje h) (fun _ => rfl) fun c r1 h2 => bind_mono h2 (ih.block _ _) fun b r2 h3 => rfl)
    rw [if_neg h1, if_neg h1]; rw [if_neg h1] at h
    by_cases h1 : z30 (ByteArray.mk #[115, 101, 110, 100]) ts = true
    ·rw [if_pos h1, if_pos h1]
    rw [if_neg h1, if_neg h1]; rw [if_neg h1] at h
    by_cases h1 : z30 (ByteArray.mk #[114, 101, 99, 118]) ts = true
    ·rw [if_pos h1, if_pos h1]; rw [if_pos h1] at h
     exact congrArg some (bind_mono (zje h) (fun _ => rfl) fun c r1 h2 => bind_mono h2 (fun _ => rfl) fun b r2 h3 => bind_mono h3 (ih.arm _ _) fun _ _ h4 => bind_mono h4 (ih.arms _ _) fun _ _ _ => rfl)
    rw [if_neg h1, if_neg h1]
   ·simp only [sArm] at h ⊢
    exact bind_mono h (fun _ => rfl) fun _ _ h => bind_mono h (fun _ => rfl) fun _ _ h => bind_mono h (fun _ => rfl) fun _ _ h => bind_mono h (fun _ => rfl) fun _ _ h => bind_mono h (ih.block _ _) fun _ _ _ => rfl
   ·simp only [zak] at h ⊢
    by_cases h1 : z30 (ByteArray.mk #[125]) ts = true
    ·rw [if_pos h1, if_pos h1]
    rw [if_neg h1, if_neg h1]; rw [if_neg h1] at h
    exact bind_mono h (ih.arm _ _) fun _ _ h => bind_mono h (ih.arms _ _) fun _ _ _ => rfl
   ·simp only [z7g] at h ⊢
    by_cases h1 : (z30 (ByteArray.mk #[123]) ts && decide (i = 24)) = true
    ·rw [if_pos h1, if_pos h1]
    rw [if_neg h1, if_neg h1]; rw [if_neg h1] at h
    exact bind_mono h (fun _ => rfl) fun _ _ h => bind_mono h (ih.stmts _ _) fun _ _ _ => rfl
/-! ### Reading, told without fuel -/
section
variable (L : Int)
def BF (d : Nat) (ts : List Tok) (e : z05) (r : List Tok) : Prop := ∃ f0, ∀ f, f0 ≤ f → z5d L f d ts = .ok e r
def BM (d : Nat) (a : z05) (ts : List Tok) (e : z05) (r : List Tok) : Prop := ∃ f0, ∀ f, f0 ≤ f → sMul L f d a ts = .ok e r
def BT (d : Nat) (ts : List Tok) (e : z05) (r : List Tok) : Prop := ∃ f0, ∀ f, f0 ≤ f → z9o L f d ts = .ok e r
def BA (d : Nat) (a : z05) (ts : List Tok) (e : z05) (r : List Tok) : Prop := ∃ f0, ∀ f, f0 ≤ f → sAdd L f d a ts = .ok e r
def BE (d : Nat) (ts : List Tok) (e : z05) (r : List Tok) : Prop := ∃ f0, ∀ f, f0 ≤ f → z9p L f d ts = .ok e r
end
section
variable {L : Int} {d : Nat} {ts r r' : List Tok} {a e e' : z05}
theorem BE.eX (h : BE L 0 ts e r) : eX L ts = .ok e r := by
 obtain ⟨f0, h⟩ := h
 have := (mo L (4 * ts.length + 3) (max f0 (4 * ts.length + 3)) (Nat.le_max_right _ _)).exp 0 ts zoi
 unfold Par.eX
 rw [← this]
 exact h _ (Nat.le_max_left _ _)
theorem zs2 {t : Tok} (hk : t.kind = 2) : BF L d (t :: r) ⟨1, (t.num : Int), nB, []⟩ r := ⟨1, fun f hf => by
 cases f with
 | zero => omega
 | succ f => simp [z5d, z30, sOf, sNum, hk, Rs.bind]⟩
theorem zoj (h : z3s mulS ts = none) : BM L d a ts a ts := ⟨1, fun f hf => by
 cases f with
 | zero => omega
 | succ f => simp only [sMul, h]⟩
theorem ztw {j : Nat} {k : z05} (h : z3s mulS ts = some j) (h1 : BF L d ts.tail k r) (h2 : BM L d ⟨6 + (j : Int), 0, nB, [a, k]⟩ r e' r') : BM L d a ts e' r' := by
 obtain ⟨f1, h1⟩ := h1
 obtain ⟨f2, h2⟩ := h2
 refine ⟨f1 + f2 + 1, fun f hf => ?_⟩
 cases f with
 | zero => omega
 | succ f =>
  simp only [sMul, h]
  rw [h1 f (by omega)]
  exact h2 f (by omega)
theorem bt (h1 : BF L d ts e r) (h2 : BM L d e r e' r') : BT L d ts e' r' := by
 obtain ⟨f1, h1⟩ := h1
 obtain ⟨f2, h2⟩ := h2
 refine ⟨f1 + f2 + 1, fun f hf => ?_⟩
 cases f with
 | zero => omega
 | succ f =>
  simp only [z9o]
  rw [h1 f (by omega)]
  exact h2 f (by omega)
theorem ztx (h : z3s addS ts = none) : BA L d a ts a ts := ⟨1, fun f hf => by
 cases f with
 | zero => omega
 | succ f => simp only [sAdd, h]⟩
theorem zty {j : Nat} {k : z05} (h : z3s addS ts = some j) (h1 : BT L d ts.tail k r) (h2 : BA L d ⟨4 + (j : Int), 0, nB, [a, k]⟩ r e' r') : BA L d a ts e' r' := by
 obtain ⟨f1, h1⟩ := h1
 obtain ⟨f2, h2⟩ := h2
 refine ⟨f1 + f2 + 1, fun f hf => ?_⟩
 cases f with
 | zero => omega
 | succ f =>
  simp only [sAdd, h]
  rw [h1 f (by omega)]
  exact h2 f (by omega)
theorem be (h1 : BT L d ts e r) (h2 : BA L d e r e' r') : BE L d ts e' r' := by
 obtain ⟨f1, h1⟩ := h1
 obtain ⟨f2, h2⟩ := h2
 refine ⟨f1 + f2 + 1, fun f hf => ?_⟩
 cases f with
 | zero => omega
 | succ f =>
  simp only [z9p]
  rw [h1 f (by omega)]
  exact h2 f (by omega)
end
section
variable (L : Int)
def BSs (i : Nat) (ts : List Tok) (l : List z0k) (r : List Tok) : Prop := ∃ f0, ∀ f, f0 ≤ f → z61 L f i ts = .ok l r
def BS1 (i : Nat) (ts : List Tok) (s : z0k) (r : List Tok) : Prop := ∃ f0, ∀ f, f0 ≤ f → z88 L f i ts = some (.ok s r)
end
section
variable {L : Int} {i : Nat} {ts r r' : List Tok}
theorem BSs.body {l : List z0k} (h : BSs L 0 ts l r) (hne : zhw L ts ≠ .out) : zhw L ts = .ok l r := by
 obtain ⟨f0, h⟩ := h
 have := (moS L (3 * ts.length + 2) (max f0 (3 * ts.length + 2)) (Nat.le_max_right _ _)).stmts 0 ts hne
 unfold zhw
 rw [← this]
 exact h _ (Nat.le_max_left _ _)
theorem ztz (h : ∀ f, z88 L (f + 1) i ts = none) : BSs L i ts [] ts := ⟨2, fun f hf => by
 cases f with
 | zero => omega
 | succ f => cases f with
  | zero => omega
  | succ f => simp only [z61, h]⟩
theorem zql {s : z0k} {l : List z0k} (h1 : BS1 L i ts s r) (h2 : BSs L i r l r') : BSs L i ts (s :: l) r' := by
 obtain ⟨f1, h1⟩ := h1
 obtain ⟨f2, h2⟩ := h2
 refine ⟨f1 + f2 + 1, fun f hf => ?_⟩
 cases f with
 | zero => omega
 | succ f =>
  simp only [z61]
  rw [h1 f (by omega)]
  simp only [Rs.bind]
  rw [h2 f (by omega)]
end
end Go.Proofs.YtokjbpmjdcbogaaGreatDoor.Abs.Par
/- What is written is parsed back: words and expressions. -/
namespace Go.Proofs.YtokjbpmjdcbogaaGreatDoor.Abs.Par
open Go Go.RowKit Wri
set_option linter.unusedVariables false
set_option linter.unusedSimpArgs false
/-! ### Words and what they are read as -/
def IsT (w : ByteArray) (t : Tok) : Prop := t.text = w.data.toList ∧ ∃ x, oneW w.data.toList x ∧ t.kind = x.kind ∧ t.num = x.num
def isK (w : ByteArray) : Bool := match zaj w.data.toList with | .ok x => decide (x.kind ≥ 3) | .error _ => false
def wIdx : List ByteArray → ByteArray → Option Nat
 | [], _ => none
 | v :: l, w => if w.data.toList == v.data.toList then some 0 else (wIdx l w).map (· + 1)
section
variable {w w' : ByteArray} {t : Tok} {r : List Tok}
theorem IsT.kind (h : IsT w t) (hk : isK w = true) : t.kind ≥ 3 := by
 obtain ⟨h1, x, ⟨h2, _⟩, h3, _⟩ := h
 unfold isK at hk; rw [h2] at hk
 rw [h3]; simpa using hk
theorem IsT.sees (h : IsT w t) (hk : isK w = true) : z30 w (t :: r) = true := by
 have := h.kind hk
 simp [z30, h.1, this]
theorem IsT.no (h : IsT w t) (hne : (w.data.toList == w'.data.toList) = false) : z30 w' (t :: r) = false := by
 simp only [z30, h.1, hne, Bool.and_false]
theorem IsT.which (h : IsT w t) (hk : isK w = true) : ∀ ws, z3s ws (t :: r) = wIdx ws w
 | [] => rfl
 | v :: l => by
  have := h.kind hk
  have e : decide (t.kind ≥ 3) = true := by simpa using this
  simp only [z3s, wIdx, IsT.which h hk l, z30, h.1, e, Bool.true_and]
theorem IsT.of (h : IsT w t) (hk : isK w = true) : sOf 1 (t :: r) = false := by
 have := h.kind hk
 simp only [sOf, beq_eq_false_iff_ne]; omega
theorem IsT.must {L : Int} (h : IsT w t) (hk : isK w = true) : z5u L w (t :: r) = .ok () r := by
 unfold z5u; rw [if_pos (h.sees hk)]; rfl
theorem zok (h : t.kind = 1) : z30 w (t :: r) = false := by simp [z30, h]
theorem zol {ts : List Tok} (h : z30 w ts = true) : sOf 1 ts = false := by
 cases ts with
 | nil => cases h
 | cons t r =>
  simp only [z30, Bool.and_eq_true, decide_eq_true_eq] at h
  simp only [sOf, beq_eq_false_iff_ne]; omega
theorem zdj {ts : List Tok} (h : z30 w ts = true) (hne : (w.data.toList == w'.data.toList) = false) : z30 w' ts = false := by
 cases ts with
 | nil => rfl
 | cons t r =>
  simp only [z30, Bool.and_eq_true, beq_iff_eq] at h
  simp only [z30, h.2, hne, Bool.and_false]
theorem zom {L : Int} {s : ByteArray} (h : t.kind = 1) (ht : t.text = s.data.toList) : z83 L (t :: r) = .ok s r := by
 simp [z83, h, ht]
end
def Rw : List ByteArray → List Tok → List Tok → Prop
 | [], ts, r => ts = r
 | w :: ws, ts, r => ∃ t ts', ts = t :: ts' ∧ IsT w t ∧ Rw ws ts' r
theorem Rw.app : ∀ {a b : List ByteArray} {ts r : List Tok}, Rw (a ++ b) ts r → ∃ m, Rw a ts m ∧ Rw b m r
 | [], b, ts, r, h => ⟨ts, rfl, h⟩
 | w :: a, b, ts, r, h => by
  obtain ⟨t, ts', e, ht, h⟩ := h
  obtain ⟨m, h1, h2⟩ := Rw.app h
  exact ⟨m, ⟨t, ts', e, ht, h1⟩, h2⟩
/-- These words may be, and so they are read. -/
def G (x : Wr) (ts r : List Tok) : Prop := x.bad = false ∧ x.dp = false ∧ Rw x.ws ts r
section
variable {x y : Wr} {ts r : List Tok}
theorem G.app (h : G (x ++ y) ts r) : ∃ m, G x ts m ∧ G y m r := by
 obtain ⟨h1, h2, h3⟩ := h
 simp only [Wr.bad_app, Wr.dp_app, Bool.or_eq_false_iff, Wr.ws_app] at h1 h2 h3
 obtain ⟨m, h4, h5⟩ := h3.app
 exact ⟨m, ⟨h1.1, h2.1, h4⟩, ⟨h1.2, h2.2, h5⟩⟩
theorem G.w {w : ByteArray} (h : G (Wri.wW [w]) ts r) : ∃ t, ts = t :: r ∧ IsT w t := by
 obtain ⟨_, _, t, ts', e, ht, h⟩ := h
 have h : ts' = r := h
 subst h
 exact ⟨t, e, ht⟩
theorem G.w2 {w v : ByteArray} (h : G (Wri.wW [w, v]) ts r) : ∃ t t', ts = t :: t' :: r ∧ IsT w t ∧ IsT v t' := by
 obtain ⟨_, _, t, ts', e, ht, t', ts2, e', ht', h⟩ := h
 have h : ts2 = r := h
 subst h; subst e'
 exact ⟨t, t', e, ht, ht'⟩
theorem G.d {q : Int} (h : G (wD q) ts r) : q ≤ 24 ∧ ts = r := by
 obtain ⟨_, h2, h3⟩ := h
 simp only [wD, decide_eq_false_iff_not] at h2
 exact ⟨by omega, h3⟩
theorem G.m {b : Bool} (h : G (Wri.wM b) ts r) : b = true ∧ ts = r := by
 obtain ⟨h1, _, h3⟩ := h
 simp only [Wri.wM, Bool.not_eq_false'] at h1
 exact ⟨h1, h3⟩
theorem G.nil (h : G Wr.nil ts r) : ts = r := h.2.2
theorem G.n {s : ByteArray} (h : G (wN s) ts r) : ∃ t, ts = t :: r ∧ t.kind = 1 ∧ t.text = s.data.toList := by
 obtain ⟨h1, _, t, ts', e, ⟨ht, x, ⟨hx, _⟩, hk, _⟩, h3⟩ := h
 have h3 : ts' = r := h3
 subst h3
 simp only [wN, Bool.not_eq_false'] at h1
 obtain ⟨y, ⟨hy, _⟩, hk', _⟩ := zqi h1
 rw [hx] at hy
 injection hy with hy
 subst hy
 exact ⟨t, e, by rw [hk, hk'], ht⟩
theorem G.i {n : Int} (h : G (wI n) ts r) : ∃ t, ts = t :: r ∧ t.kind = 2 ∧ (t.num : Int) = n := by
 obtain ⟨h1, _, t, ts', e, ⟨ht, x, ⟨hx, _⟩, hk, hn⟩, h3⟩ := h
 have h3 : ts' = r := h3
 subst h3
 simp only [wI, Bool.not_eq_false'] at h1
 obtain ⟨⟨hy, _⟩, _⟩ := zqj h1
 rw [hx] at hy
 injection hy with hy
 subst hy
 refine ⟨t, e, hk, ?_⟩
 unfold zqk at h1
 simp only [Bool.and_eq_true, decide_eq_true_eq] at h1
 rw [hn]
 show ((n.toNat : Nat) : Int) = n
 omega
end
/-! ### Expressions -/
def bkE : z03 → z05
 | ⟨k, n, s, []⟩ => if k == 1 then ⟨1, n, nB, []⟩ else ⟨2, 0, s, []⟩
 | ⟨k, n, s, [x]⟩ => ⟨3, 0, nB, [bkE x]⟩
 | ⟨k, n, s, [l, r]⟩ => ⟨k, 0, nB, [bkE l, bkE r]⟩
 | ⟨k, n, s, a :: b :: c :: l⟩ => zE
structure RtE (L : Int) (e : z03) : Prop where
 fac : zhx e.Kind = false → ∀ (d : Nat) ts r, G (sE e (d : Int)) ts r → BF L d ts (bkE e) r
 term : sumK e.Kind = false → ∀ (d : Nat) ts r e' r', G (sE e (d : Int)) ts r → BM L d (bkE e) r e' r' → BT L d ts e' r'
 exp : ∀ (d : Nat) ts r e' r', G (sE e (d : Int)) ts r → z3s mulS r = none → BA L d (bkE e) r e' r' → BE L d ts e' r'
section
variable {L : Int} {e : z03}
theorem ztk {k : Int} (h : zhx k = true) : k = 4 ∨ k = 5 ∨ k = 6 ∨ k = 7 ∨ k = 8 := by
 unfold zhx at h
 simp only [Bool.and_eq_true, decide_eq_true_eq] at h
 omega
end
/-! ### Comparisons -/
end Go.Proofs.YtokjbpmjdcbogaaGreatDoor.Abs.Par
/- What is written is parsed back: statements. -/
namespace Go.Proofs.YtokjbpmjdcbogaaGreatDoor.Abs.Par
open Go Go.RowKit Wri
set_option linter.unusedVariables false
set_option linter.unusedSimpArgs false
/-! ### What a statement begins with -/
theorem zqm {L : Int} {i f : Nat} {ts : List Tok} (h : z30 (ByteArray.mk #[125]) ts = true) : z88 L (f + 1) i ts = none := by
 simp only [z88]
 rw [zdj h (by decide), zdj h (by decide), zdj h (by decide), zdj h (by decide), zdj h (by decide), zdj h (by decide), zol h]
 simp only [Bool.false_eq_true, if_false]
/-! ### Statements -/
section
variable {L : Int}
end
end Go.Proofs.YtokjbpmjdcbogaaGreatDoor.Abs.Par
/- What is written is parsed back: channels, rules, processes, systems. -/
namespace Go.Proofs.YtokjbpmjdcbogaaGreatDoor.Abs.Par
open Go Go.RowKit Wri
set_option linter.unusedVariables false
set_option linter.unusedSimpArgs false
def ML {α : Type} (more : List Tok → Option (Rs α)) : List Tok → List α → List Tok → Prop
 | ts, [], r => ts = r
 | ts, v :: l, r => ∃ m, more ts = some (.ok v m) ∧ ML more m l r
theorem zew {α : Type} {more : List Tok → Option (Rs α)} (m : More more) : ∀ (l : List α) (ts r : List Tok) (f : Nat), ML more ts l r → more r = none → ts.length + 1 ≤ f → z7s more f ts = .ok l r
 | [], ts, r, f, h, hr, hf => by
  have h : ts = r := h
  subst h
  cases f with
  | zero => omega
  | succ f => simp only [z7s, hr]
 | v :: l, ts, r, f, h, hr, hf => by
  obtain ⟨s, h1, h2⟩ := h
  have := (m.suf _ _ _ h1).2
  cases f with
  | zero => omega
  | succ f =>
   simp only [z7s, h1, Rs.bind]
   rw [zew m l s r f h2 hr (by omega)]
section
variable {L : Int} {ts r : List Tok}
end
end Go.Proofs.YtokjbpmjdcbogaaGreatDoor.Abs.Par
/- Words put one behind the other are read; a text of what is written says what is written. -/
namespace Go.Proofs.YtokjbpmjdcbogaaGreatDoor.Abs.Par
open Go Go.RowKit Wri
set_option linter.unusedVariables false
set_option linter.unusedSimpArgs false
/-! ### A word and what stands behind it -/
theorem zex : ∀ (w rest : Bs), runL w = w.length → (∀ b ∈ rest.head?, isA b = false) → runL (w ++ rest) = w.length
 | [], rest, _, hr => by
  cases rest with
  | nil => rfl
  | cons b r => rw [List.nil_append, z9n, if_neg (by rw [hr b (by simp)]; decide)]; rfl
 | b :: r, rest, h, hr => by
  rw [z9n] at h
  rw [List.cons_append, z9n]
  split at h
  ·rename_i hA
   rw [if_pos hA, zex r rest (by simpa using h) hr]
   rfl
  ·simp at h
theorem zmj {b : UInt8} {r rest : Bs} (h : zcf (b :: r) = (b :: r).length) (hr : ∀ b ∈ rest.head?, b ≠ 61) : zcf (b :: r ++ rest) = (b :: r).length := by
 cases r with
 | nil =>
  simp only [zcf, List.length_cons, List.length_nil] at h ⊢
  cases rest with
  | nil => simpa using h
  | cons c q =>
   have : c ≠ 61 := hr c (by simp)
   simp only [List.cons_append, List.nil_append]
   simpa [this] using h
 | cons c r =>
  simp only [zcf] at h ⊢
  simp only [List.cons_append, List.length_cons] at h ⊢
  simpa using h
/-- Does what follows leave the word as it is? -/
def Leaves (w rest : Bs) : Prop := (w.head?.map isA = some true → ∀ b ∈ rest.head?, isA b = false) ∧ (w.head?.map isA = some false → ∀ b ∈ rest.head?, b ≠ 61)
theorem zon {b : UInt8} : isA b = true ↔ isL b = true ∨ isD b = true := by unfold isA; simp
theorem zoo {w rest : Bs} {x : W} (h : oneW w x) (hl : Leaves w rest) : zaj (w ++ rest) = .ok x := by
  obtain ⟨h1, h2⟩ := h
  cases w with
  | nil => cases h1
  | cons b r =>
    have hA := hl.1
    have hS := hl.2
    simp only [List.head?_cons, Option.map_some, Option.some.injEq] at hA hS
    rw [zbh] at h1
    rw [List.cons_append, zbh]
    have ht : (b :: (r ++ rest)).take (b :: r).length = b :: r := by rw [← List.cons_append]; simp
    have htt : (b :: r).take (b :: r).length = b :: r := by simp
    split at h1
    · rename_i hL
      rw [if_pos hL]
      split at h1
      · cases h1
      · rename_i h12
        injection h1 with h1; subst h1
        have hr : runL (b :: r) = (b :: r).length := h2
        have hr' := zex (b :: r) rest hr (hA (zon.2 (.inl hL)))
        rw [List.cons_append] at hr'
        have h12' : ¬ 12 < (b :: r).length := by rw [← hr]; exact h12
        rw [hr', if_neg h12', ht, hr, htt]
    · rename_i hL
      rw [if_neg hL]
      split at h1
      · rename_i hD
        rw [if_pos hD]
        split at h1
        · rename_i hn
          injection h1 with h1; subst h1
          have hr : runL (b :: r) = (b :: r).length := h2
          have hr' := zex (b :: r) rest hr (hA (zon.2 (.inr hD)))
          rw [List.cons_append] at hr'
          rw [hr, htt] at hn
          rw [hr', ht, if_pos hn, hr, htt]
        · cases h1
      · rename_i hD
        rw [if_neg hD]
        split at h1
        · cases h1
        · rename_i hs
          injection h1 with h1; subst h1
          have hr : zcf (b :: r) = (b :: r).length := h2
          have hn : isA b = false := by
            cases hb : isA b with
            | false => rfl
            | true => rcases zon.1 hb with h | h
                      · exact absurd h hL
                      · exact absurd h hD
          have hr' := zmj (rest := rest) hr (hS hn)
          rw [List.cons_append] at hr'
          rw [hr', if_neg (by simp), hr]
theorem zqn {w rest : Bs} {x : W} (h : oneW w x) (hb : ∀ b ∈ w.head?, isB b = false) (hl : Leaves w rest) (p : Nat) :
  lexS (w ++ rest) p = (⟨x.kind, w, x.num, p⟩ :: (lexS rest (p + w.length)).1, (lexS rest (p + w.length)).2) := by
 have h1 := zoo h hl
 obtain ⟨h0, h2⟩ := h
 cases w with
 | nil => cases h0
 | cons b r =>
  have hbb : isB b = false := hb b (by simp)
  rw [List.cons_append] at h1 ⊢
  rw [zop hbb h1]
  have e1 : (b :: (r ++ rest)).drop x.len = rest := by rw [h2, ← List.cons_append]; simp
  have e2 : (b :: (r ++ rest)).take x.len = b :: r := by rw [h2, ← List.cons_append]; simp
  rw [e1, e2, h2]
theorem zft : ∀ (s rest : Bs) (p : Nat), s.all isB = true → lexS (s ++ rest) p = lexS rest (p + s.length)
 | [], rest, p, _ => rfl
 | b :: s, rest, p, h => by
  simp only [List.all_cons, Bool.and_eq_true] at h
  rw [List.cons_append, zfu _ _ h.1, zft s rest (p + 1) h.2, List.length_cons, Nat.add_assoc, Nat.add_comm 1]
/-! ### A text of words, each with the blanks behind it -/
def txt : List (ByteArray × Bs) → Bs
 | [] => []
 | x :: l => x.1.data.toList ++ (x.2 ++ txt l)
def Ch : List (ByteArray × Bs) → Prop
 | [] => True
 | x :: l => oneS x.1 = true ∧ x.2.all isB = true ∧ Leaves x.1.data.toList (x.2 ++ txt l) ∧ Ch l
theorem zoq : ∀ (l : List (ByteArray × Bs)) (p : Nat), Ch l → (lexS (txt l) p).2 = none ∧ Rw (l.map Prod.fst) (lexS (txt l) p).1 []
 | [], p, _ => by rw [txt, zku]; exact ⟨rfl, rfl⟩
 | x :: l, p, h => by
  obtain ⟨h1, h2, h3, h4⟩ := h
  obtain ⟨y, hy, hb⟩ := ztv h1
  obtain ⟨i1, i2⟩ := zoq l (p + x.1.data.toList.length + x.2.length) h4
  simp only [txt]
  rw [zqn hy hb h3, zft _ _ _ h2]
  exact ⟨i1, _, _, rfl, ⟨rfl, y, hy, rfl, rfl⟩, i2⟩
theorem Rw.len : ∀ {ws : List ByteArray} {ts r : List Tok}, Rw ws ts r → ts.length = ws.length + r.length
 | [], ts, r, h => by have h : ts = r := h; subst h; simp
 | w :: ws, ts, r, h => by
  obtain ⟨t, ts', e, _, h⟩ := h
  have := Rw.len h
  subst e
  simp only [List.length_cons]; omega
theorem z7h {w : Bs} {b : UInt8} {rest : Bs} (hb : isB b = true) : Leaves w (b :: rest) := by
 have hA : isA b = false ∧ b ≠ 61 := by
  unfold isB at hb
  simp only [Bool.or_eq_true, beq_iff_eq] at hb
  rcases hb with rfl | rfl <;> decide
 exact ⟨fun _ c hc => by simp at hc; subst hc; exact hA.1, fun _ c hc => by simp at hc; subst hc; exact hA.2⟩
end Go.Proofs.YtokjbpmjdcbogaaGreatDoor.Abs.Par
/- A text of one assignment; the law ParseLefts in plain form. -/
namespace Go.Proofs.YtokjbpmjdcbogaaGreatDoor.Abs.Par
open Go Go.RowKit Wri
set_option linter.unusedVariables false
set_option linter.unusedSimpArgs false
/-! ### One assignment -/
abbrev zvx : ByteArray := ByteArray.mk #[112, 114, 111, 99]
abbrev bP : ByteArray := ByteArray.mk #[112]
abbrev bX : ByteArray := ByteArray.mk #[120]
abbrev zvy : ByteArray := ByteArray.mk #[123]
abbrev bEq : ByteArray := ByteArray.mk #[61]
abbrev zu0 : ByteArray := ByteArray.mk #[59]
abbrev zor : ByteArray := ByteArray.mk #[125]
theorem IsT.lit {w : ByteArray} {t : Tok} {x : W} (h : IsT w t) (hw : zaj w.data.toList = .ok x) : t.kind = x.kind ∧ t.num = x.num ∧ t.text = w.data.toList := by
 obtain ⟨h1, y, ⟨h2, _⟩, h3, h4⟩ := h
 rw [hw] at h2; injection h2 with h2; subst h2
 exact ⟨h3, h4, h1⟩
def oneA (e : z05) : z38 := ⟨[], [], [⟨bP, [], [.mk 1 bX nB e zC [] [] []]⟩]⟩
/-- What the words of one assignment say. -/
theorem zu1 {L : Int} {ts m : List Tok} {e : z05} (h : Rw [zvx, bP, zvy, bX, bEq] ts m) {t1 t2 : Tok} (h1 : IsT zu0 t1) (h2 : IsT zor t2) (hx : eX L m = .ok e [t1, t2]) : sAll L ts = .ok (oneA e) [] := by
 obtain ⟨a1, _, rfl, q1, a2, _, rfl, q2, a3, _, rfl, q3, a4, _, rfl, q4, a5, M, rfl, q5, h⟩ := h
 have h : M = m := h
 rw [← h] at hx
 clear h
 have k2 := q2.lit (x := ⟨1, 1, 0⟩) rfl
 have k4 := q4.lit (x := ⟨1, 1, 0⟩) rfl
 have hS : BS1 L 0 (a4  :: a5 :: M) (.mk 1 bX nB e zC [] [] []) [t2] := ⟨1, fun f hf => by
  cases f with
  | zero => omega
  | succ f =>
   have e1 : sOf 1 (a4  :: a5 :: M) = true := by simp only [sOf, k4.1]; rfl
   simp only [z88, zok k4.1, Bool.false_eq_true, if_false, e1, if_true, z9a, zom (L := L) k4.1 k4.2.2, Rs.bind, q5.must (L := L) (by decide), hx, h1.must (L := L) (by decide)]⟩
 have hB := (zql hS (ztz fun f => zqm (h2.sees (by decide)))).body zos
 have hV : z7s (mVar L) ((a4  :: a5 :: M).length + 1) (a4  :: a5 :: M) = .ok [] (a4  :: a5 :: M) := zew (zfv (L := L)) [] _ _ _ rfl (by unfold mVar; rw [zok k4.1]; rfl) (Nat.le_refl _)
 have hP : zfd L (a1 :: a2 :: a3 :: a4  :: a5 :: M) = some (.ok ⟨bP, [], [.mk 1 bX nB e zC [] [] []]⟩ []) := by
  unfold zfd
  rw [if_pos (q1.sees (by decide)), List.tail_cons]
  unfold zfe
  simp only [zom (L := L) k2.1 k2.2.2, Rs.bind, q3.must (L := L) (by decide), hV, hB, h2.must (L := L) (by decide)]
 have y1 := zew (zgh (L := L)) [] (a1 :: a2 :: a3 :: a4  :: a5 :: M) _ ((a1 :: a2 :: a3 :: a4  :: a5 :: M).length + 1) rfl (by unfold zgi; rw [q1.no (by decide)]; rfl) (Nat.le_refl _)
 have y2 := zew (zgj (L := L)) [] (a1 :: a2 :: a3 :: a4  :: a5 :: M) _ ((a1 :: a2 :: a3 :: a4  :: a5 :: M).length + 1) rfl (by unfold zgk; rw [q1.no (by decide)]; rfl) (Nat.le_refl _)
 have y3 := zew (zjf (L := L)) [⟨bP, [], [.mk 1 bX nB e zC [] [] []]⟩] (a1 :: a2 :: a3 :: a4  :: a5 :: M) [] ((a1 :: a2 :: a3 :: a4  :: a5 :: M).length + 1) ⟨[], hP, rfl⟩ rfl (Nat.le_refl _)
 unfold sAll Par.sSys
 simp only [y1, Rs.bind, y2, y3]
 rfl
/-! ### From the left -/
def two : z05 := ⟨1, 2, nB, []⟩
def finS (w : z05) : Option (Int × z05) → z05
 | none => w
 | some (op, s) => ⟨op, 0, nB, [s, w]⟩
def za4 (z : z05 × Option (Int × z05)) (s : Nat) : z05 × Option (Int × z05) :=
 if 2 ≤ s then (⟨4 + (s : Int), 0, nB, [z.1, two]⟩, z.2) else (two, some (4 + (s : Int), finS z.1 z.2))
def sgn (s : Nat) : ByteArray := match s with
 | 0 => ByteArray.mk #[43] | 1 => ByteArray.mk #[45] | 2 => ByteArray.mk #[42] | 3 => ByteArray.mk #[47] | _ => ByteArray.mk #[37]
abbrev b2 : ByteArray := ByteArray.mk #[50]
def wl : List Nat → List ByteArray
 | [] => []
 | s :: l => sgn s :: b2 :: wl l
theorem zvz {s : Nat} (h : s < 5) {t : Tok} (ht : IsT (sgn s) t) (r : List Tok) : if 2 ≤ s then z3s mulS (t :: r) = some (s - 2) else z3s mulS (t :: r) = none ∧ z3s addS (t :: r) = some s := by
 have : s = 0 ∨ s = 1 ∨ s = 2 ∨ s = 3 ∨ s = 4 := by omega
 rcases this with rfl | rfl | rfl | rfl | rfl
 ·exact ⟨by rw [ht.which (by decide)]; decide, by rw [ht.which (by decide)]; decide⟩
 ·exact ⟨by rw [ht.which (by decide)]; decide, by rw [ht.which (by decide)]; decide⟩
 ·show z3s mulS (t :: r) = some 0; rw [ht.which (by decide)]; decide
 ·show z3s mulS (t :: r) = some 1; rw [ht.which (by decide)]; decide
 ·show z3s mulS (t :: r) = some 2; rw [ht.which (by decide)]; decide
theorem zu2 {L : Int} : ∀ (ls : List Nat), (∀ s ∈ ls, s < 5) → ∀ (w : z05) (so : Option (Int × z05)) (ts r : List Tok), Rw (wl ls) ts r → z3s mulS r = none → z3s addS r = none →
  ∃ e1 r1, BM L 0 w ts e1 r1 ∧ BA L 0 (finS e1 so) r1 (finS (ls.foldl za4 (w, so)).1 (ls.foldl za4 (w, so)).2) r
 | [], _, w, so, ts, r, h, hm, ha => by
  have h : ts = r := h
  subst h
  exact ⟨w, ts, zoj hm, ztx ha⟩
 | s :: ls, hs, w, so, ts, r, h, hm, ha => by
  obtain ⟨t1, _, rfl, q1, t2, ts', rfl, q2, h⟩ := h
  have h5 := hs s (by simp)
  have k2 := q2.lit (x := ⟨2, 1, 2⟩) rfl
  have hF : BF L 0 (t2 :: ts') two ts' := by
   have := zs2 (L := L) (d := 0) (r := ts') k2.1
   rw [k2.2.1] at this
   exact this
  have hq := zvz h5 q1 (t2 :: ts')
  by_cases h2 : 2 ≤ s
  ·rw [if_pos h2] at hq
   obtain ⟨e1, r1, i1, i2⟩ := zu2 ls (fun x hx => hs x (by simp [hx])) ⟨4 + (s : Int), 0, nB, [w, two]⟩ so ts' r h hm ha
   refine ⟨e1, r1, ztw hq hF ?_, ?_⟩
   ·rw [show 6 + ((s - 2 : Nat) : Int) = 4 + (s : Int) by omega]; exact i1
   ·rw [List.foldl_cons, show za4 (w, so) s = (⟨4 + (s : Int), 0, nB, [w, two]⟩, so) by unfold za4; rw [if_pos h2]]; exact i2
  ·rw [if_neg h2] at hq
   obtain ⟨e1, r1, i1, i2⟩ := zu2 ls (fun x hx => hs x (by simp [hx])) two (some (4 + (s : Int), finS w so)) ts' r h hm ha
   refine ⟨w, _, zoj hq.1, zty hq.2 (bt hF i1) ?_⟩
   rw [List.foldl_cons, show za4 (w, so) s = (two, some (4 + (s : Int), finS w so)) by unfold za4; rw [if_neg h2]]
   exact i2
def lw : List Nat → List (ByteArray × Bs)
 | [] => [(zu0, [32]), (zor, [])]
 | s :: l => (sgn s, []) :: (b2, []) :: lw l
def lb : List (ByteArray × Bs) := [(zvx, [32]), (bP, [32]), (zvy, [32]), (bX, [32]), (bEq, [32])]
theorem zs3 : ∀ l, (lw l).map Prod.fst = wl l ++ [zu0, zor]
 | [] => rfl
 | s :: l => by simp only [lw, wl, List.map_cons, zs3 l, List.cons_append]
theorem zkv (s : Nat) : ∃ b, (sgn s).data.toList = [b] ∧ isA b = false ∧ oneS (sgn s) = true := by
 unfold sgn; split <;> exact ⟨_, rfl, by decide, by decide⟩
theorem zot : ∀ l, ∀ b ∈ (txt (lw l)).head?, isA b = false
 | [], b, h => by have : some (59 : UInt8) = some b := h; injection this with this; subst this; decide
 | s :: l, b, h => by
  obtain ⟨c, h1, h2, _⟩ := zkv s
  simp only [lw, txt, h1, List.cons_append, List.head?_cons, Option.mem_def, Option.some.injEq] at h
  subst h; exact h2
theorem zw0 : ∀ l, Ch (lw l)
 | [] => ⟨by decide, by decide, z7h (by decide), by decide, by decide, ⟨fun _ b hb => by simp [txt] at hb, fun _ b hb => by simp [txt] at hb⟩, trivial⟩
 | s :: l => by
  obtain ⟨c, h1, h2, h3⟩ := zkv s
  refine ⟨h3, rfl, ?_, by decide, rfl, ?_, zw0 l⟩
  ·dsimp only
   rw [h1]
   refine ⟨fun h => ?_, fun h b hb => ?_⟩
   ·rw [List.head?_cons, Option.map_some, h2] at h; cases h
   ·have : some (50 : UInt8) = some b := hb
    injection this with this; subst this; decide
  ·dsimp only
   exact ⟨fun _ b hb => zot l b (by simpa using hb), fun h => by cases h⟩
theorem zw1 (l : List Nat) : Ch (lb ++ (((ByteArray.mk #[49] : ByteArray), ([] : Bs)) :: lw l)) :=
 ⟨by decide, by decide, z7h (by decide), by decide, by decide, z7h (by decide), by decide, by decide, z7h (by decide), by decide, by decide, z7h (by decide), by decide, by decide, z7h (by decide),
  by decide, rfl, ⟨fun _ b hb => zot l b (by simpa using hb), fun h => by cases h⟩, zw0 l⟩
theorem zou : ∀ a b : List (ByteArray × Bs), txt (a ++ b) = txt a ++ txt b
 | [], b => rfl
 | x :: a, b => by simp only [List.cons_append, txt, zou a b, List.append_assoc]
theorem zs4 : ∀ l, (wl l).length = 2 * l.length
 | [] => rfl
 | s :: l => by simp only [wl, List.length_cons, zs4 l]; omega
theorem zmk {t : ByteArray} {ls : List Nat} (hs : ∀ s ∈ ls, s < 5) (hl : ls.length ≤ 12) (ht : t.data.toList = txt (lb ++ (((ByteArray.mk #[49] : ByteArray), ([] : Bs)) :: lw ls))) :
  gAll t = (oneA (finS (ls.foldl za4 (⟨1, 1, nB, []⟩, none)).1 (ls.foldl za4 (⟨1, 1, nB, []⟩, none)).2), 0, 0) := by
 obtain ⟨h1, h2⟩ := zoq _ 0 (zw1 ls)
 have h3 := h2.len
 rw [List.map_append, List.map_cons, zs3] at h2 h3
 have hlen : (lb.map Prod.fst).length = 5 := rfl
 simp only [List.length_append, List.length_cons, List.length_nil, zs4, hlen] at h3
 obtain ⟨m, h4, h5⟩ := h2.app
 obtain ⟨t1, m1, rfl, q1, h6⟩ := h5
 obtain ⟨m2, h7, t2, _, rfl, q2, t3, _, rfl, q3, h8⟩ := h6.app
 have h8 : _ = [] := h8
 subst h8
 have k1 := q1.lit (x := ⟨2, 1, 1⟩) rfl
 have hF : BF (t.size : Int) 0 (t1 :: m1) ⟨1, 1, nB, []⟩ m1 := by
  have := zs2 (L := (t.size : Int)) (d := 0) (r := m1) k1.1
  rw [k1.2.1] at this
  exact this
 obtain ⟨e1, r1, i1, i2⟩ := zu2 (L := (t.size : Int)) ls hs ⟨1, 1, nB, []⟩ none m1 [t2, t3] h7 (by rw [q2.which (by decide)]; decide) (by rw [q2.which (by decide)]; decide)
 have hX := (be (bt hF i1) i2).eX
 have h9 := zu1 (L := (t.size : Int)) h4 q2 q3 hX
 unfold gAll
 rw [ht]
 unfold told
 rw [h1]
 simp only
 rw [if_neg (by omega)]
 unfold fin
 simp only [bne_self_eq_false, Bool.false_eq_true, if_false, h9]
/-! ### The law -/
def encS (t : ByteArray) (i : Int) (z : z05 × Option (Int × z05)) : ByteArray × Bool × Int × Int × Int × Int × (List z05) × Int × Int × (List z05) :=
 (t, z.2.isSome, (z.2.map (·.1)).getD 0, i, z.1.Kind, z.1.Num, z.1.Kids, (z.2.map (·.2.Kind)).getD 0, (z.2.map (·.2.Num)).getD 0, (z.2.map (·.2.Kids)).getD [])
def okZ (z : z05 × Option (Int × z05)) : Prop := z.1.Name = nB ∧ ∀ o s, z.2 = some (o, s) → s.Name = nB
theorem zkw {z : z05 × Option (Int × z05)} (h : okZ z) : (finS z.1 z.2).Name = nB := by
 unfold finS
 split
 ·exact h.1
 ·rfl
theorem zqo {z : z05 × Option (Int × z05)} (h : okZ z) (s : Nat) : okZ (za4 z s) := by
 unfold za4
 split
 ·exact ⟨rfl, h.2⟩
 ·exact ⟨rfl, fun o s' hq => by simp only [Option.some.injEq, Prod.mk.injEq] at hq; rw [← hq.2]; exact zkw h⟩
theorem zqp {e : z05} (h : e.Name = nB) : z05.mk e.Kind e.Num (ByteArray.mk #[]) e.Kids = e := by
 obtain ⟨k, n, s, l⟩ := e
 have h : s = nB := h
 subst h; rfl
theorem zu3 {s : Nat} (h : s < 5) : idx [(ByteArray.mk #[43]), (ByteArray.mk #[45]), (ByteArray.mk #[42]), (ByteArray.mk #[47]), (ByteArray.mk #[37])] (s : Int) = some (sgn s) := by
 have : s = 0 ∨ s = 1 ∨ s = 2 ∨ s = 3 ∨ s = 4 := by omega
 rcases this with rfl | rfl | rfl | rfl | rfl <;> rfl
theorem zs5 (s : Nat) : (sgn s).size = 1 := by unfold sgn; split <;> rfl
theorem zjg {a b : ByteArray} (h : a.size + b.size ≤ 1000000) : scat a b = some (a ++ b) := by unfold scat; rw [if_pos (by omega)]
theorem zml {a1 : List Int} (ha : ∀ x ∈ a1, 0 ≤ x) {v1 : Int} (hv0 : 0 ≤ v1) (hv1 : v1 < 12) {t : ByteArray} (ht : t.size ≤ 1000) {i : Nat} (hi : i < 1 + v1.toNat) {z : z05 × Option (Int × z05)} (hz : okZ z) :
  ∃ s : Nat, s < 5 ∧ z3w a1 v1 (encS t (i : Int) z) = some (.inl (encS (t ++ sgn s ++ b2) ((i + 1 : Nat) : Int) (za4 z s))) := by
 have hw : IntKind.i64.wrap (1 + IntKind.i64.wrap v1) = 1 + v1 := by rw [w64 (n := v1) (by omega) (by omega), w64 (by omega) (by omega)]
 have hc : decide ((i : Int) < 1 + v1) = true := by simp; omega
 have hb2 : b2.size = 1 := rfl
 have key : ∀ s : Nat, s < 5 → (scat t (sgn s) = some (t ++ sgn s) ∧ scat (t ++ sgn s) b2 = some (t ++ sgn s ++ b2)) := fun s _ => by
  have := zs5 s
  exact ⟨zjg (by omega), zjg (by simp only [ByteArray.size_append]; omega)⟩
 have hwr : ∀ s : Nat, s < 5 → IntKind.i64.wrap (4 + IntKind.i64.wrap (s : Int)) = 4 + (s : Int) := fun s hs => by rw [w64 (n := (s : Int)) (by omega) (by omega), w64 (by omega) (by omega)]
 obtain ⟨w, so⟩ := z
 obtain ⟨hz1, hz2⟩ := hz
 have hz1 : w.Name = nB := hz1
 have fins : ∀ s : Nat, s < 5 → ((if decide ((s : Int) ≥ 2) = true then some (t ++ sgn s ++ b2, (encS t (i : Int) (w, so)).2.1, (encS t (i : Int) (w, so)).2.2.1, 4 + (s : Int), (0 : Int), [z05.mk w.Kind w.Num (ByteArray.mk #[]) w.Kids, z05.mk 1 2 (ByteArray.mk #[]) []], (encS t (i : Int) (w, so)).2.2.2.2.2.2.2.1, (encS t (i : Int) (w, so)).2.2.2.2.2.2.2.2.1, (encS t (i : Int) (w, so)).2.2.2.2.2.2.2.2.2)
   else if (encS t (i : Int) (w, so)).2.1 = true then some (t ++ sgn s ++ b2, true, 4 + (s : Int), 1, 2, [], (encS t (i : Int) (w, so)).2.2.1, 0, [z05.mk (encS t (i : Int) (w, so)).2.2.2.2.2.2.2.1 (encS t (i : Int) (w, so)).2.2.2.2.2.2.2.2.1 (ByteArray.mk #[]) (encS t (i : Int) (w, so)).2.2.2.2.2.2.2.2.2, z05.mk w.Kind w.Num (ByteArray.mk #[]) w.Kids])
   else some (t ++ sgn s ++ b2, true, 4 + (s : Int), 1, 2, [], w.Kind, w.Num, w.Kids) : Option (ByteArray × Bool × Int × Int × Int × (List z05) × Int × Int × (List z05))) >>= fun j2 => some (.inl (j2.1, j2.2.1, j2.2.2.1, IntKind.i64.wrap ((i : Int) + 1), j2.2.2.2.1, j2.2.2.2.2.1, j2.2.2.2.2.2.1, j2.2.2.2.2.2.2.1, j2.2.2.2.2.2.2.2.1, j2.2.2.2.2.2.2.2.2)))
   = (some (.inl (encS (t ++ sgn s ++ b2) ((i + 1 : Nat) : Int) (za4 (w, so) s))) : Option (Sum (ByteArray × Bool × Int × Int × Int × Int × (List z05) × Int × Int × (List z05)) (Sum Bool (ByteArray × Bool × Int × Int × Int × (List z05) × Int × Int × (List z05))))) := fun s hs => by
  have hwi : IntKind.i64.wrap ((i : Int) + 1) = ((i + 1 : Nat) : Int) := zqq (i := i) (by omega)
  rw [hwi, zqp hz1]
  unfold za4
  by_cases h2 : 2 ≤ s
  ·have : decide ((s : Int) ≥ 2) = true := by simp; omega
   simp only [this, if_true, if_pos h2, Option.bind_eq_bind, Option.bind_some]
   rfl
  ·have : decide ((s : Int) ≥ 2) = false := by simp; omega
   simp only [this, Bool.false_eq_true, if_false, if_neg h2]
   cases so with
   | none => rfl
   | some q =>
    obtain ⟨op, sm⟩ := q
    have := zqp (hz2 op sm rfl)
    simp only [encS, Option.isSome_some, if_true, Option.map_some, Option.getD_some, this, Option.bind_eq_bind, Option.bind_some]
    rfl
 unfold z3w
 rw [hw]
 show ∃ s : Nat, s < 5 ∧ (if decide ((i : Int) < 1 + v1) = true then _ else _) = _
 rw [if_pos hc]
 by_cases hg : (i : Int) < (a1.length : Int)
 ·have hlt : i < a1.length := by omega
  have hx : idx a1 (encS t (i : Int) (w, so)).2.2.2.1 = some a1[i] := zhy hlt
  have h0 := ha _ (List.getElem_mem hlt)
  generalize a1[i] = g at hx h0
  have hr : rem g 5 = some (((g % 5).toNat : Nat) : Int) := by
   unfold rem; rw [if_neg (by decide), Int.tmod_eq_emod_of_nonneg h0]
   congr 1; omega
  have hs5 : (g % 5).toNat < 5 := by omega
  generalize (g % 5).toNat = s at hr hs5
  refine ⟨s, hs5, ?_⟩
  have hgd : decide ((encS t (i : Int) (w, so)).2.2.2.1 < (a1.length : Int)) = true := decide_eq_true hg
  rw [if_pos hgd, hx]
  obtain ⟨c1, c2⟩ := key s hs5
  have c1 : scat (encS t (i : Int) (w, so)).1 (sgn s) = some (t ++ sgn s) := c1
  have c2 : scat (t ++ sgn s) (ByteArray.mk #[50]) = some (t ++ sgn s ++ b2) := c2
  simp only [Option.bind_eq_bind, Option.bind_some, hr, zu3 hs5, c1, c2, hwr s hs5]
  exact fins s hs5
 ·refine ⟨0, by decide, ?_⟩
  have hgd : ¬ (decide ((encS t (i : Int) (w, so)).2.2.2.1 < (a1.length : Int)) = true) := fun h => hg (of_decide_eq_true h)
  rw [if_neg hgd]
  obtain ⟨c1, c2⟩ := key 0 (by decide)
  have c1 : scat (encS t (i : Int) (w, so)).1 (sgn 0) = some (t ++ sgn 0) := c1
  have c2 : scat (t ++ sgn 0) (ByteArray.mk #[50]) = some (t ++ sgn 0 ++ b2) := c2
  have c3 : idx [(ByteArray.mk #[43]), (ByteArray.mk #[45]), (ByteArray.mk #[42]), (ByteArray.mk #[47]), (ByteArray.mk #[37])] 0 = some (sgn 0) := rfl
  have c4 := hwr 0 (by decide)
  have c4 : IntKind.i64.wrap (4 + IntKind.i64.wrap 0) = 4 + ((0 : Nat) : Int) := c4
  simp only [Option.bind_eq_bind, Option.bind_some, c3, c1, c2, c4]
  exact fins 0 (by decide)
def lsT (ls : List Nat) : Bs := (ls.map fun s => (sgn s).data.toList ++ [50]).flatten
theorem zs6 : ∀ ls, txt (lw ls) = lsT ls ++ txt (lw [])
 | [] => rfl
 | s :: l => by simp only [lw, txt, zs6 l, lsT, List.map_cons, List.flatten_cons, List.append_assoc, List.nil_append]
theorem zqr {a1 : List Int} (ha : ∀ x ∈ a1, 0 ≤ x) {v1 : Int} (hv0 : 0 ≤ v1) (hv1 : v1 < 12) : ∀ (d i : Nat) (t : ByteArray) (z : z05 × Option (Int × z05)), 1 + v1.toNat - i = d → i ≤ 1 + v1.toNat → t.size ≤ 100 + 2 * i → okZ z →
  ∃ ls : List Nat, (∀ s ∈ ls, s < 5) ∧ ls.length = d ∧ ∃ t' : ByteArray, t'.data.toList = t.data.toList ++ lsT ls ∧ t'.size ≤ 200 ∧ okZ (ls.foldl za4 z) ∧
   iter (z3w a1 v1) (encS t (i : Int) z) = some (.inr (t', (encS t' 0 (ls.foldl za4 z)).2.1, (encS t' 0 (ls.foldl za4 z)).2.2.1, (encS t' 0 (ls.foldl za4 z)).2.2.2.2)) := by
 intro d
 induction d with
 | zero =>
  intro i t z hd hi ht hz
  have hi : i = 1 + v1.toNat := by omega
  have hw : IntKind.i64.wrap (1 + IntKind.i64.wrap v1) = 1 + v1 := by rw [w64 (n := v1) (by omega) (by omega), w64 (by omega) (by omega)]
  refine ⟨[], by simp, rfl, t, by simp [lsT], by omega, hz, z5v ?_⟩
  unfold z3w
  rw [hw, if_neg (by show ¬ (decide ((i : Int) < 1 + v1) = true); simp; omega)]
  rfl
 | succ d ih =>
  intro i t z hd hi ht hz
  obtain ⟨s, hs, hst⟩ := zml ha hv0 hv1 (t := t) (by omega) (i := i) (by omega) hz
  have hsz := zs5 s
  have hb2 : b2.size = 1 := rfl
  obtain ⟨ls, h1, h2, t', h3, h4, h5, h6⟩ := ih (i + 1) (t ++ sgn s ++ b2) (za4 z s) (by omega) (by omega) (by simp only [ByteArray.size_append]; omega) (zqo hz s)
  refine ⟨s :: ls, fun x hx => ?_, by simp [h2], t', ?_, h4, h5, by rw [zdk hst]; exact h6⟩
  ·rcases List.mem_cons.1 hx with rfl | hx
   ·exact hs
   ·exact h1 x hx
  ·rw [h3]; simp [lsT]
theorem law_ParseLefts (a0 : Int) {a1 : List Int} (ha : ∀ x ∈ a1, 0 ≤ x) : z7t a0 a1 = some true := by
 unfold z7t
 have hr : rem (IntKind.u64.wrap a0) 12 = some ((IntKind.u64.wrap a0).tmod 12) := by unfold rem; rw [if_neg (by decide)]
 have hu : 0 ≤ IntKind.u64.wrap a0 := by simp [IntKind.wrap, IntKind.signed, IntKind.bits]; omega
 have hv : 0 ≤ (IntKind.u64.wrap a0).tmod 12 ∧ (IntKind.u64.wrap a0).tmod 12 < 12 := by rw [Int.tmod_eq_emod_of_nonneg hu]; omega
 rw [hr]
 generalize (IntKind.u64.wrap a0).tmod 12 = v1 at hv
 obtain ⟨ls, h1, h2, t', h3, h4, h5, h6⟩ := zqr ha hv.1 hv.2 _ 0 (ByteArray.mk #[112, 114, 111, 99, 32, 112, 32, 123, 32, 120, 32, 61, 32, 49]) (⟨1, 1, nB, []⟩, none) rfl (Nat.zero_le _) (by decide) ⟨rfl, fun o s h => by cases h⟩
 have h6 : iter (z3w a1 v1) ((ByteArray.mk #[112, 114, 111, 99, 32, 112, 32, 123, 32, 120, 32, 61, 32, 49]), false, 0, 0, 1, 1, [], 0, 0, []) = _ := h6
 simp only [Option.bind_eq_bind, Option.bind_some, h6, Sum.elim_inr]
 have c1 : scat t' (ByteArray.mk #[59, 32, 125]) = some (t' ++ ByteArray.mk #[59, 32, 125]) := zjg (by have : (ByteArray.mk #[59, 32, 125]).size = 3 := rfl; omega)
 have hg := zmk (t := t' ++ ByteArray.mk #[59, 32, 125]) h1 (by omega) (by
  rw [zou]
  simp only [txt]
  rw [zs6, zqs, h3]
  simp [lb, txt, lw])
 have hp : z5b (t' ++ ByteArray.mk #[59, 32, 125]) = _ := zjh (by simp only [ByteArray.size_append]; have : (ByteArray.mk #[59, 32, 125]).size = 3 := rfl; omega)
 have hcv := zu4 (t' ++ ByteArray.mk #[59, 32, 125])
 have hsm := zov (t' ++ ByteArray.mk #[59, 32, 125])
 rw [hg] at hp hcv hsm
 simp only at hp hcv hsm
 have hfn := zkw h5
 generalize ls.foldl za4 (⟨1, 1, nB, []⟩, none) = z at *
 obtain ⟨w, so⟩ := z
 obtain ⟨hz1, hz2⟩ := h5
 have hz1 := zqp hz1
 simp only [c1, Option.bind_some, hp, zqt, if_true, beq_self_eq_true]
 cases so with
 | none =>
  simp only [encS, Option.isSome_none, Bool.false_eq_true, if_false]
  have e : z6e (z38.mk [] [] [(z6p.mk (ByteArray.mk #[112]) [] [(z0k.mk 1 (ByteArray.mk #[120]) (ByteArray.mk #[]) (z05.mk w.Kind w.Num (ByteArray.mk #[]) w.Kids) (z4f.mk 0 (z05.mk 0 0 (ByteArray.mk #[]) []) (z05.mk 0 0 (ByteArray.mk #[]) [])) [] [] [])])]) = some (cSys (oneA (finS w none))) := by
   simp only at hz1
   rw [hz1]; exact hcv
  rw [e]
  simp only [Option.bind_some, hsm]
 | some q =>
  obtain ⟨op, sm⟩ := q
  have hz3 := zqp (hz2 op sm rfl)
  simp only [encS, Option.isSome_some, if_true, Option.map_some, Option.getD_some]
  have e : z6e (z38.mk [] [] [(z6p.mk (ByteArray.mk #[112]) [] [(z0k.mk 1 (ByteArray.mk #[120]) (ByteArray.mk #[]) (z05.mk op 0 (ByteArray.mk #[]) [(z05.mk sm.Kind sm.Num (ByteArray.mk #[]) sm.Kids), (z05.mk w.Kind w.Num (ByteArray.mk #[]) w.Kids)]) (z4f.mk 0 (z05.mk 0 0 (ByteArray.mk #[]) []) (z05.mk 0 0 (ByteArray.mk #[]) [])) [] [] [])])]) = some (cSys (oneA (finS w (some (op, sm))))) := by
   simp only at hz1
   rw [hz1, hz3]; exact hcv
  rw [e]
  simp only [Option.bind_some, hsm]
end Go.Proofs.YtokjbpmjdcbogaaGreatDoor.Abs.Par
