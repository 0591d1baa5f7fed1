/- What parsing is, over words; the program's reader does it: signs, names, expressions. -/
import Derived.Test.YtokjbpmjdcbogaaDoorPlB
import Derived.KernelRfl
namespace Go.Proofs.YtokjbpmjdcbogaaDoor.Abs.Par
open Go Go.RowKit Wri
set_option linter.unusedVariables false
set_option linter.unusedSimpArgs false
/-- What comes of reading: a value and the words left, an error and its place, or no fuel. -/
inductive Rs (α : Type) where
 | ok (v : α) (ts : List Tok)
 | er (c p : Int)
 | out
def Rs.bind {α β : Type} (x : Rs α) (k : α → List Tok → Rs β) : Rs β := match x with
 | .ok v ts => k v ts
 | .er c p => .er c p
 | .out => .out
section
variable (L : Int)
def sAt : List Tok → Int
 | [] => L
 | t :: _ => (t.at_ : Int)
def z2x (w : ByteArray) : List Tok → Bool
 | [] => false
 | t :: _ => decide (t.kind ≥ 3) && (t.text == w.data.toList)
def sOf (k : Int) : List Tok → Bool
 | [] => false
 | t :: _ => t.kind == k
def z4o (w : ByteArray) (ts : List Tok) : Rs Unit := if z2x w ts then .ok () ts.tail else .er 5 (sAt L ts)
def z6a : List Tok → Rs ByteArray
 | [] => .er 5 L
 | t :: r => if t.kind == 1 then .ok ⟨t.text.toArray⟩ r else .er 5 (t.at_ : Int)
def sNum : List Tok → Rs Int
 | [] => .er 5 L
 | t :: r => if t.kind == 2 then .ok (t.num : Int) r else .er 5 (t.at_ : Int)
def z4e : List ByteArray → List Tok → Option Nat
 | [], _ => none
 | w :: l, ts => if z2x w ts then some 0 else (z4e l ts).map (· + 1)
def zE : z3q := ⟨0, 0, ByteArray.mk #[], []⟩
def zC : z7b := ⟨0, zE, zE⟩
def mulS : List ByteArray := [(ByteArray.mk #[42]), (ByteArray.mk #[47]), (ByteArray.mk #[37])]
def addS : List ByteArray := [(ByteArray.mk #[43]), (ByteArray.mk #[45])]
mutual
def z6n : Nat → Nat → List Tok → Rs z3q
 | 0, _, _ => .out
 | f + 1, d, ts =>
  if z2x (ByteArray.mk #[45]) ts then (if d = 24 then .er 6 (sAt L ts) else (z6n f (d + 1) ts.tail).bind fun e r => .ok ⟨3, 0, ByteArray.mk #[], [e]⟩ r)
  else if z2x (ByteArray.mk #[40]) ts then (if d = 24 then .er 6 (sAt L ts) else (zbb f (d + 1) ts.tail).bind fun e r => (z4o L (ByteArray.mk #[41]) r).bind fun _ r' => .ok e r')
  else if sOf 2 ts then (sNum L ts).bind fun n r => .ok ⟨1, n, ByteArray.mk #[], []⟩ r
  else (z6a L ts).bind fun s r => .ok ⟨2, 0, s, []⟩ r
def sMul : Nat → Nat → z3q → List Tok → Rs z3q
 | 0, _, _, _ => .out
 | f + 1, d, e, ts => match z4e mulS ts with
  | none => .ok e ts
  | some j => (z6n f d ts.tail).bind fun k r => sMul f d ⟨6 + (j : Int), 0, ByteArray.mk #[], [e, k]⟩ r
def zbc : Nat → Nat → List Tok → Rs z3q
 | 0, _, _ => .out
 | f + 1, d, ts => (z6n f d ts).bind fun e r => sMul f d e r
def sAdd : Nat → Nat → z3q → List Tok → Rs z3q
 | 0, _, _, _ => .out
 | f + 1, d, e, ts => match z4e addS ts with
  | none => .ok e ts
  | some j => (zbc f d ts.tail).bind fun k r => sAdd f d ⟨4 + (j : Int), 0, ByteArray.mk #[], [e, k]⟩ r
def zbb : Nat → Nat → List Tok → Rs z3q
 | 0, _, _ => .out
 | f + 1, d, ts => (zbc f d ts).bind fun e r => sAdd f d e r
end
end
/-! ### The program's reader -/
def PS (L : Int) (ts : List Tok) (d i : Int) : z00 := ⟨ts.map tokT, L, 0, 0, d, i⟩
def EP (a : z00) (c p : Int) : Prop := a.f_e = c ∧ a.f_at = p
section
variable {ρ ρ' β γ : Type} {L d i d' i' : Int} {π : ρ → z00} {mk : β → z00 → ρ} {π' : ρ' → z00} {mk' : γ → z00 → ρ'} {H : Nat}
def GP (L d i : Int) (π : ρ → z00) (mk : β → z00 → ρ) : Rs β → ρ → Prop
 | .ok v ts, r => r = mk v (PS L ts d i)
 | .er c p, r => c ≠ 0 ∧ EP (π r) c p
 | .out, _ => False
def TP (L d i : Int) (π : ρ → z00) (mk : β → z00 → ρ) (H : Nat) (x : Nat → Option ρ) (o : Rs β) : Prop := o ≠ .out → ∃ r, GP L d i π mk o r ∧ ∀ n, Sn n H (x n) r
theorem TP.bind {x : Nat → Option ρ} {o : Rs β} {k : Nat → ρ → Option ρ'} {k' : β → List Tok → Rs γ} (h : TP L d i π mk H x o) (hok : ∀ v ts, o = .ok v ts → TP L d' i' π' mk' H (fun n => k n (mk v (PS L ts d i))) (k' v ts))
  (her : ∀ r c p, c ≠ 0 → EP (π r) c p → ∃ r', EP (π' r') c p ∧ ∀ n, Sn n H (k n r) r') : TP L d' i' π' mk' H (fun n => x n >>= k n) (o.bind k') := by
 intro hne
 cases o with
 | ok v ts =>
  obtain ⟨r, hr, hs⟩ := h (by simp)
  have hr : r = mk v (PS L ts d i) := hr
  subst hr
  obtain ⟨r', g', s'⟩ := hok v ts rfl hne
  exact ⟨r', g', fun n => Sn.bind (f := k n) (hs n) (s' n)⟩
 | er c p =>
  obtain ⟨r, ⟨hc, he⟩, hs⟩ := h (by simp)
  obtain ⟨r', he', s'⟩ := her r c p hc he
  exact ⟨r', ⟨hc, he'⟩, fun n => Sn.bind (f := k n) (hs n) (s' n)⟩
 | out => exact absurd rfl hne
theorem TP.pure {x : Nat → Option ρ} {v : β} {ts : List Tok} (e : ∀ n, x n = some (mk v (PS L ts d i))) : TP L d i π mk H x (.ok v ts) := fun _ => ⟨_, rfl, fun n => .inl (e n)⟩
theorem TP.err {x : Nat → Option ρ} {r : ρ} {c p : Int} (e : ∀ n, x n = some r) (hc : c ≠ 0) (hp : EP (π r) c p) : TP L d i π mk H x (.er c p) := fun _ => ⟨r, ⟨hc, hp⟩, fun n => .inl (e n)⟩
theorem TP.up {F x : Nat → Option ρ} {o : Rs β} (h0 : F 0 = none) (h1 : ∀ n, F (n + 1) = x n) (h : TP L d i π mk H x o) : TP L d i π mk (H + 1) F o := by
 intro hne
 obtain ⟨r, g, s⟩ := h hne
 refine ⟨r, g, fun n => ?_⟩
 cases n with
 | zero => exact .inr ⟨h0, by omega⟩
 | succ n => rw [h1]; exact (s n).up
theorem TP.mono {x : Nat → Option ρ} {o : Rs β} {H' : Nat} (h : TP L d i π mk H x o) (hh : H ≤ H') : TP L d i π mk H' x o := fun hne => by
 obtain ⟨r, g, s⟩ := h hne
 exact ⟨r, g, fun n => (s n).mono hh⟩
theorem TP.eq {x y : Nat → Option ρ} {o : Rs β} (h : TP L d i π mk H y o) (e : ∀ n, x n = y n) : TP L d i π mk H x o := by
 rw [show x = y from funext e]; exact h
theorem TP.unf {x : Nat → Option ρ} {o : Rs β} (h : TP L d i π mk H x o) : TP L d i π mk 0 (fun _ => unf x) o := fun hne => by
 obtain ⟨r, g, s⟩ := h hne
 exact ⟨r, g, fun n => .inl (Sn.unf s)⟩
end
theorem z9i {ρ : Type} {P : ρ → Prop} {x : Nat → Option ρ} {r : ρ} {H : Nat} (e : ∀ n, Sn n H (x n) r) (p : P r) : ∃ r, P r ∧ ∀ n, Sn n H (x n) r := ⟨r, p, e⟩
/-! ### Signs and names -/
theorem ziv (t : Tok) : (tokT t).Text.data.toList = t.text := by simp [tokT]
theorem idx0 {α : Type} (x : α) (l : List α) : idx (x :: l) 0 = some x := rfl
theorem zol {α : Type} (x : α) (l : List α) (h : l.length ≤ 4611686018427387904) : lsub (x :: l) 1 ((x :: l).length : Int) = some l := by
 unfold lsub
 rw [if_pos ⟨by omega, by simp only [List.length_cons]; omega, by omega⟩]
 simp
section
variable {L d i : Int} {ts : List Tok}
theorem z8g (w : ByteArray) : z1q (PS L ts d i) w = some (z2x w ts) := by
 cases ts with
 | nil => rfl
 | cons t r =>
  unfold z1q PS z2x
  have h1 : decide (((tokT t :: r.map tokT).length : Int) > 0) = true := by simp
  have e : (tokT t).Kind = t.kind := rfl
  simp only [beq_self_eq_true, if_true, List.map_cons, h1, idx0, Option.bind_eq_bind, Option.bind_some, Go.ByteArray.toList_eq, ziv, e]
  cases decide (t.kind ≥ 3) <;> simp
theorem of_P (k : Int) : z32 (PS L ts d i) k = some (sOf k ts) := by
 cases ts with
 | nil => rfl
 | cons t r =>
  unfold z32 PS sOf
  have h1 : decide (((tokT t :: r.map tokT).length : Int) > 0) = true := by simp
  simp only [beq_self_eq_true, if_true, List.map_cons, h1, idx0, Option.bind_eq_bind, Option.bind_some]
  rfl
theorem zaz (c : Int) : z18 (PS L ts d i) c = some ⟨ts.map tokT, L, c, sAt L ts, d, i⟩ := by
 cases ts with
 | nil => rfl
 | cons t r =>
  unfold z18 PS sAt
  have h1 : decide (((tokT t :: r.map tokT).length : Int) > 0) = true := by simp
  simp only [zkc, Bool.false_eq_true, if_false, if_true, List.map_cons, h1, idx0, Option.bind_eq_bind, Option.bind_some]
  rfl
theorem z4z (hl : ts.length ≤ 2000) (w : ByteArray) : z09 (PS L ts d i) w = some (if z2x w ts then (PS L ts.tail d i, true) else (PS L ts d i, false)) := by
 unfold z09
 rw [z8g]
 cases hs : z2x w ts with
 | false => rfl
 | true =>
  cases ts with
  | nil => cases hs
  | cons t r =>
   simp only [Option.bind_eq_bind, Option.bind_some, Bool.not_true, Bool.false_eq_true, if_false, if_true, List.tail_cons]
   have : lsub (PS L (t :: r) d i).f_l 1 ((PS L (t :: r) d i).f_l.length : Int) = some (r.map tokT) := zol (tokT t) (r.map tokT) (by simp at hl ⊢; omega)
   rw [this]; rfl
theorem zfq (hl : ts.length ≤ 2000) (w : ByteArray) : z02 (PS L ts d i) w = some (if z2x w ts then PS L ts.tail d i else ⟨ts.map tokT, L, 5, sAt L ts, d, i⟩) := by
 unfold z02
 rw [z4z hl]
 cases hs : z2x w ts with
 | false => simp [zaz]
 | true => simp
abbrev mkM : Unit → z00 → z00 := fun _ a => a
abbrev mkV {α : Type} : α → z00 → z00 × α := fun v a => (a, v)
theorem z44 {H : Nat} (hl : ts.length ≤ 2000) (w : ByteArray) : TP L d i id mkM H (fun _ => z02 (PS L ts d i) w) (z4o L w ts) := by
 unfold z4o
 cases hs : z2x w ts with
 | true => exact TP.pure (fun n => by rw [zfq hl, hs]; rfl)
 | false => exact TP.err (r := ⟨ts.map tokT, L, 5, sAt L ts, d, i⟩) (fun n => by rw [zfq hl, hs]; rfl) (by decide) ⟨rfl, rfl⟩
theorem zbo (hl : ts.length ≤ 2000) (k : Int) : z2w (PS L ts d i) k = match ts with
  | [] => some (⟨[], L, 5, L, d, i⟩, ⟨0, ByteArray.mk #[], 0, 0⟩)
  | t :: r => if t.kind == k then some (PS L r d i, tokT t) else some (⟨(t :: r).map tokT, L, 5, (t.at_ : Int), d, i⟩, ⟨0, ByteArray.mk #[], 0, 0⟩) := by
 unfold z2w
 rw [of_P]
 cases ts with
 | nil => rfl
 | cons t r =>
  simp only [sOf]
  cases hk : (t.kind == k) with
  | false => simp only [Option.bind_eq_bind, Option.bind_some, Bool.not_false, if_true, zaz, Bool.false_eq_true, if_false]; rfl
  | true =>
   have : lsub (PS L (t :: r) d i).f_l 1 ((PS L (t :: r) d i).f_l.length : Int) = some (r.map tokT) := zol (tokT t) (r.map tokT) (by simp at hl ⊢; omega)
   have h0 : idx (PS L (t :: r) d i).f_l 0 = some (tokT t) := rfl
   simp only [Option.bind_eq_bind, Option.bind_some, Bool.not_true, Bool.false_eq_true, if_false, if_true, this, h0]
   rfl
theorem z64 {H : Nat} (hl : ts.length ≤ 2000) : TP L d i Prod.fst mkV H (fun _ => z08 (PS L ts d i)) (z6a L ts) := by
 unfold z08
 cases ts with
 | nil => exact TP.err (r := (⟨[], L, 5, L, d, i⟩, ByteArray.mk #[])) (fun n => by rw [zbo hl]; rfl) (by decide) ⟨rfl, rfl⟩
 | cons t r =>
  simp only [z6a]
  cases hk : (t.kind == 1) with
  | true => exact TP.pure (fun n => by rw [zbo hl]; simp only [hk, if_true]; rfl)
  | false => exact TP.err (r := (⟨(t :: r).map tokT, L, 5, (t.at_ : Int), d, i⟩, ByteArray.mk #[])) (fun n => by rw [zbo hl]; simp only [hk, Bool.false_eq_true, if_false]; rfl) (by decide) ⟨rfl, rfl⟩
theorem zkd {H : Nat} (hl : ts.length ≤ 2000) : TP L d i Prod.fst mkV H (fun _ => z12 (PS L ts d i)) (sNum L ts) := by
 unfold z12
 cases ts with
 | nil => exact TP.err (r := (⟨[], L, 5, L, d, i⟩, 0)) (fun n => by rw [zbo hl]; rfl) (by decide) ⟨rfl, rfl⟩
 | cons t r =>
  simp only [sNum]
  cases hk : (t.kind == 2) with
  | true => exact TP.pure (fun n => by rw [zbo hl]; simp only [hk, if_true]; rfl)
  | false => exact TP.err (r := (⟨(t :: r).map tokT, L, 5, (t.at_ : Int), d, i⟩, 0)) (fun n => by rw [zbo hl]; simp only [hk, Bool.false_eq_true, if_false]; rfl) (by decide) ⟨rfl, rfl⟩
def tp6 (a : z00) : List z07 × Int × Int × Int × Int × Int := (a.f_l, a.f_end, a.f_e, a.f_at, a.f_deep, a.f_in)
theorem zke (hl : ts.length ≤ 2000) (ws : List ByteArray) (hw : ws.length ≤ 1000) : ∀ (m : List ByteArray) (k : Nat), ws.drop k = m → k ≤ ws.length →
  iter (z0c ws) ((k : Int), tp6 (PS L ts d i)) = some (match z4e m ts with | some j => .inl (PS L ts.tail d i, ((k + j : Nat) : Int)) | none => .inr (tp6 (PS L ts d i))) := by
 intro m
 induction m with
 | nil =>
  intro k hd hk
  have : k = ws.length := by have := List.drop_eq_nil_iff.1 hd; omega
  subst this
  refine z58 ?_
  unfold z0c
  rw [if_neg (by simp)]
  rfl
 | cons w m ih =>
  intro k hd hk
  have hlt : k < ws.length := by
   refine Nat.lt_of_not_le fun h => ?_
   rw [List.drop_of_length_le h] at hd; cases hd
  rw [List.drop_eq_getElem_cons hlt] at hd
  injection hd with h1 h2
  have hi : idx ws (k : Int) = some w := by rw [zlh hlt, h1]
  have hs : z09 (z00.mk (tp6 (PS L ts d i)).1 (tp6 (PS L ts d i)).2.1 (tp6 (PS L ts d i)).2.2.1 (tp6 (PS L ts d i)).2.2.2.1 (tp6 (PS L ts d i)).2.2.2.2.1 (tp6 (PS L ts d i)).2.2.2.2.2) w = _ := z4z hl w
  have hbody : z0c ws ((k : Int), tp6 (PS L ts d i)) = some (if z2x w ts then .inr (.inl (PS L ts.tail d i, (k : Int))) else .inl (((k + 1 : Nat) : Int), tp6 (PS L ts d i))) := by
   unfold z0c
   rw [if_pos (by simpa using hlt)]
   simp only [hi, Option.bind_eq_bind, Option.bind_some, hs, zmy (i := k) (by omega)]
   cases z2x w ts <;> rfl
  simp only [z4e]
  cases hsw : z2x w ts with
  | true =>
   rw [hsw, if_pos rfl] at hbody
   rw [z58 hbody]; simp
  | false =>
   rw [hsw, if_neg (by decide)] at hbody
   rw [z9x hbody, ih (k + 1) h2 hlt]
   cases z4e m ts with
   | none => simp
   | some j => simp; omega
theorem zc7 (hl : ts.length ≤ 2000) (ws : List ByteArray) (hw : ws.length ≤ 1000) : z0w (PS L ts d i) ws = some (match z4e ws ts with | some j => (PS L ts.tail d i, (j : Int)) | none => (PS L ts d i, -1)) := by
 have h := zke (L := L) (d := d) (i := i) hl ws hw ws 0 rfl (by omega)
 unfold z0w z17
 have e : (((0 : Nat) : Int), tp6 (PS L ts d i)) = (0, (PS L ts d i).f_l, (PS L ts d i).f_end, (PS L ts d i).f_e, (PS L ts d i).f_at, (PS L ts d i).f_deep, (PS L ts d i).f_in) := rfl
 rw [← e, h]
 cases z4e ws ts with
 | none => rfl
 | some j => simp
end
/-! ### Where there is an error, nothing is done -/
section
variable {a : z00} (h : a.f_e ≠ 0)
include h
theorem e0 : (a.f_e == 0) = false := by simpa using h
theorem e1 : (a.f_e != 0) = true := by simpa using h
theorem ziw (w : ByteArray) : z1q a w = some false := by unfold z1q; rw [if_neg (by simp [h])]
theorem of_e (k : Int) : z32 a k = some false := by unfold z32; rw [if_neg (by simp [h])]
theorem zbp (c : Int) : z18 a c = some a := by unfold z18; rw [if_pos (by simp [h])]
theorem z7v (w : ByteArray) : z09 a w = some (a, false) := by unfold z09; rw [ziw h]; rfl
theorem z6o (w : ByteArray) : z02 a w = some a := by
 unfold z02; rw [z7v h]
 simp only [Option.bind_eq_bind, Option.bind_some, Bool.not_false, if_true, zbp h]
theorem zli (k : Int) : z2w a k = some (a, ⟨0, ByteArray.mk #[], 0, 0⟩) := by
 unfold z2w; rw [of_e h]
 simp only [Option.bind_eq_bind, Option.bind_some, Bool.not_false, if_true, zbp h]
theorem zbq : z08 a = some (a, ByteArray.mk #[]) := by unfold z08; rw [zli h]; rfl
theorem zom : z12 a = some (a, 0) := by unfold z12; rw [zli h]; rfl
theorem zix (ws : List ByteArray) (hw : ws.length ≤ 1000) : z0w a ws = some (a, -1) := by
 have it : ∀ (m : List ByteArray) (k : Nat), ws.drop k = m → k ≤ ws.length → iter (z0c ws) ((k : Int), tp6 a) = some (.inr (tp6 a)) := by
  intro m
  induction m with
  | nil =>
   intro k hd hk
   have : k = ws.length := by have := List.drop_eq_nil_iff.1 hd; omega
   subst this
   refine z58 ?_
   unfold z0c
   rw [if_neg (by simp)]
   try rfl
  | cons w m ih =>
   intro k hd hk
   have hlt : k < ws.length := by
    refine Nat.lt_of_not_le fun h => ?_
    rw [List.drop_of_length_le h] at hd; cases hd
   rw [List.drop_eq_getElem_cons hlt] at hd
   injection hd with h1 h2
   have hi : idx ws (k : Int) = some w := by rw [zlh hlt, h1]
   have hs : z09 (z00.mk (tp6 a).1 (tp6 a).2.1 (tp6 a).2.2.1 (tp6 a).2.2.2.1 (tp6 a).2.2.2.2.1 (tp6 a).2.2.2.2.2) w = _ := z7v h w
   rw [z9x (y := (((k + 1 : Nat) : Int), tp6 a))]
   ·exact ih (k + 1) h2 hlt
   ·unfold z0c
    rw [if_pos (by simpa using hlt)]
    simp only [hi, Option.bind_eq_bind, Option.bind_some, hs, zmy (i := k) (by omega)]
    rfl
 unfold z0w z17
 have e : (((0 : Nat) : Int), tp6 a) = (0, a.f_l, a.f_end, a.f_e, a.f_at, a.f_deep, a.f_in) := rfl
 rw [← e, it ws 0 rfl (by omega)]
 try rfl
end
end Go.Proofs.YtokjbpmjdcbogaaDoor.Abs.Par
/- The program's reader reads expressions as parsing does. -/
namespace Go.Proofs.YtokjbpmjdcbogaaDoor.Abs.Par
open Go Go.RowKit Wri
set_option linter.unusedVariables false
set_option linter.unusedSimpArgs false
/-! ### What is left are the last words -/
theorem bind_ok {α β : Type} {o : Rs α} {k : α → List Tok → Rs β} {v : β} {r : List Tok} (h : o.bind k = .ok v r) : ∃ w s, o = .ok w s ∧ k w s = .ok v r := by
 cases o with
 | ok w s => exact ⟨w, s, rfl, h⟩
 | er c p => cases h
 | out => cases h
section
variable {L : Int}
theorem z35 {w : ByteArray} {ts : List Tok} (h : z2x w ts = true) : ts.tail.length < ts.length := by
 cases ts with
 | nil => cases h
 | cons t r => simp
theorem z56 {ts : List Tok} : ∀ {ws : List ByteArray} {j : Nat}, z4e ws ts = some j → ts.tail.length < ts.length ∧ j < ws.length
 | [], j, h => by cases h
 | w :: l, j, h => by
  simp only [z4e] at h
  split at h
  ·rename_i hs; injection h with h; subst h; exact ⟨z35 hs, by simp⟩
  ·cases hw : z4e l ts with
   | none => rw [hw] at h; cases h
   | some k =>
    rw [hw] at h; injection h with h
    have := z56 hw
    exact ⟨this.1, by rw [← h]; simp; omega⟩
theorem z1i {w : ByteArray} {ts r : List Tok} {v : Unit} (h : z4o L w ts = .ok v r) : r <:+ ts ∧ r.length < ts.length := by
 unfold z4o at h
 split at h
 ·rename_i hs; injection h with _ h; subst h; exact ⟨List.tail_suffix ts, z35 hs⟩
 ·cases h
theorem z26 {ts r : List Tok} {v : ByteArray} (h : z6a L ts = .ok v r) : r <:+ ts ∧ r.length < ts.length := by
 cases ts with
 | nil => cases h
 | cons t s =>
  simp only [z6a] at h
  split at h
  ·injection h with _ h; subst h; exact ⟨List.suffix_cons t s, by simp⟩
  ·cases h
theorem z7w {ts r : List Tok} {v : Int} (h : sNum L ts = .ok v r) : r <:+ ts ∧ r.length < ts.length := by
 cases ts with
 | nil => cases h
 | cons t s =>
  simp only [sNum] at h
  split at h
  ·injection h with _ h; subst h; exact ⟨List.suffix_cons t s, by simp⟩
  ·cases h
structure Suf (L : Int) (f : Nat) : Prop where
 fac : ∀ d ts v r, z6n L f d ts = .ok v r → r <:+ ts
 mul : ∀ d e ts v r, sMul L f d e ts = .ok v r → r <:+ ts
 term : ∀ d ts v r, zbc L f d ts = .ok v r → r <:+ ts
 add : ∀ d e ts v r, sAdd L f d e ts = .ok v r → r <:+ ts
 exp : ∀ d ts v r, zbb L f d ts = .ok v r → r <:+ ts
theorem suf (L : Int) : ∀ f, Suf L f := by
 intro f
 induction f with
 | zero => exact ⟨fun d ts v r h => by simp [z6n] at h, fun d e ts v r h => by simp [sMul] at h, fun d ts v r h => by simp [zbc] at h, fun d e ts v r h => by simp [sAdd] at h, fun d ts v r h => by simp [zbb] at h⟩
 | succ f ih =>
  refine ⟨fun d ts v r h => ?_, fun d e ts v r h => ?_, fun d ts v r h => ?_, fun d e ts v r h => ?_, fun d ts v r h => ?_⟩
  ·simp only [z6n] at h
   split at h
   ·split at h
    ·cases h
    ·obtain ⟨w, s, h1, h2⟩ := bind_ok h
     injection h2 with _ h2; subst h2
     exact (ih.fac _ _ _ _ h1).trans (List.tail_suffix ts)
   ·split at h
    ·split at h
     ·cases h
     ·obtain ⟨w, s, h1, h2⟩ := bind_ok h
      obtain ⟨w', s', h3, h4⟩ := bind_ok h2
      injection h4 with _ h4; subst h4
      exact ((z1i h3).1.trans (ih.exp _ _ _ _ h1)).trans (List.tail_suffix ts)
    ·split at h
     ·obtain ⟨w, s, h1, h2⟩ := bind_ok h
      injection h2 with _ h2; subst h2
      exact (z7w h1).1
     ·obtain ⟨w, s, h1, h2⟩ := bind_ok h
      injection h2 with _ h2; subst h2
      exact (z26 h1).1
  ·simp only [sMul] at h
   split at h
   ·injection h with _ h; subst h; exact List.suffix_refl _
   ·obtain ⟨w, s, h1, h2⟩ := bind_ok h
    exact ((ih.mul _ _ _ _ _ h2).trans (ih.fac _ _ _ _ h1)).trans (List.tail_suffix ts)
  ·simp only [zbc] at h
   obtain ⟨w, s, h1, h2⟩ := bind_ok h
   exact (ih.mul _ _ _ _ _ h2).trans (ih.fac _ _ _ _ h1)
  ·simp only [sAdd] at h
   split at h
   ·injection h with _ h; subst h; exact List.suffix_refl _
   ·obtain ⟨w, s, h1, h2⟩ := bind_ok h
    exact ((ih.add _ _ _ _ _ h2).trans (ih.term _ _ _ _ h1)).trans (List.tail_suffix ts)
  ·simp only [zbb] at h
   obtain ⟨w, s, h1, h2⟩ := bind_ok h
   exact (ih.add _ _ _ _ _ h2).trans (ih.term _ _ _ _ h1)
end
/-! ### Errors -/
def zA : z03 := ⟨0, 0, ByteArray.mk #[], []⟩
def vA : z03 := ⟨2, 0, ByteArray.mk #[], []⟩
def tpE (a : z00) (e : z03) : List z07 × Int × Int × Int × Int × Int × Int × Int × ByteArray × List z03 := (a.f_l, a.f_end, a.f_e, a.f_at, a.f_deep, a.f_in, e.Kind, e.Num, e.Name, e.Kids)
noncomputable def MB (n : Nat) := z19 (z0t n) (z06 n) (z0p n) (z05 n) (z0a n) (z0r n) (z0u n) mulS 6
noncomputable def AB (n : Nat) := z1g (z0t n) (z06 n) (z0p n) (z05 n) (z0a n) (z0r n) (z0u n) addS 4
abbrev E10 := List z07 × Int × Int × Int × Int × Int × Int × Int × ByteArray × List z03
def finE (j1 : E10) : Option (z00 × z03) := some ((z00.mk j1.1 j1.2.1 j1.2.2.1 j1.2.2.2.1 j1.2.2.2.2.1 j1.2.2.2.2.2.1), (z03.mk j1.2.2.2.2.2.2.1 j1.2.2.2.2.2.2.2.1 j1.2.2.2.2.2.2.2.2.1 j1.2.2.2.2.2.2.2.2.2))
noncomputable def MF (n : Nat) (a : z00) (e : z03) : Option (z00 × z03) := iter (MB n) (tpE a e) >>= Sum.elim (fun _ => none) finE
noncomputable def AF (n : Nat) (a : z00) (e : z03) : Option (z00 × z03) := iter (AB n) (tpE a e) >>= Sum.elim (fun _ => none) finE
section
variable {a : z00} (h : a.f_e ≠ 0)
include h
theorem MF_e (n : Nat) (e : z03) : MF n a e = some (a, e) := by
 obtain ⟨k, m, s, l⟩ := e
 unfold MF
 rw [z58 (r := .inr (tpE a ⟨k, m, s, l⟩)) (by
  unfold MB z19
  rw [if_neg (by simpa [tpE] using h)])]
 rfl
theorem AF_e (n : Nat) (e : z03) : AF n a e = some (a, e) := by
 obtain ⟨k, m, s, l⟩ := e
 unfold AF
 rw [z58 (r := .inr (tpE a ⟨k, m, s, l⟩)) (by
  unfold AB z1g
  rw [if_neg (by simpa [tpE] using h)])]
 rfl
theorem zkf (n : Nat) : Sn n 1 (z0a n a) (a, vA) := by
 cases n with
 | zero => exact .inr ⟨rfl, by omega⟩
 | succ n =>
  refine .inl ?_
  simp only [z0a, ziw h, of_e h, zbq h, Option.bind_eq_bind, Option.bind_some, Bool.false_eq_true, if_false]
  rfl
theorem zkg (n : Nat) : Sn n 2 (z05 n a mulS 6) (a, vA) := by
 cases n with
 | zero => exact .inr ⟨rfl, by omega⟩
 | succ n =>
  simp only [z05]
  exact (Sn.bind (f := fun v1 => MF n v1.1 v1.2) (zkf h n) (.inl (MF_e h n vA))).up
theorem zon (n : Nat) : Sn n 3 (z0p n a) (a, vA) := by
 cases n with
 | zero => exact .inr ⟨rfl, by omega⟩
 | succ n =>
  simp only [z0p]
  exact (Sn.bind (f := fun v1 => some (v1.1, v1.2)) (zkg h n) (.inl rfl)).up
theorem zkh (n : Nat) : Sn n 4 (z06 n a addS 4) (a, vA) := by
 cases n with
 | zero => exact .inr ⟨rfl, by omega⟩
 | succ n =>
  simp only [z06]
  exact (Sn.bind (f := fun v1 => AF n v1.1 v1.2) (zon h n) (.inl (AF_e h n vA))).up
theorem zmz (n : Nat) : Sn n 5 (z0t n a) (a, vA) := by
 cases n with
 | zero => exact .inr ⟨rfl, by omega⟩
 | succ n =>
  simp only [z0t]
  exact (Sn.bind (f := fun v1 => some (v1.1, v1.2)) (zkh h n) (.inl rfl)).up
theorem zoo : z2q a = some (a, vA) := Sn.unf fun n => zmz h n
end
/-! ### Without -/
section
variable {L i : Int} {ts : List Tok} {d : Int}
theorem zop (hl : ts.length ≤ 2000) (n : Nat) (e : z03) : MF n (PS L ts d i) e = match z4e mulS ts with
  | none => some (PS L ts d i, e)
  | some j => z0a n (PS L ts.tail d i) >>= fun v => MF n v.1 ⟨6 + (j : Int), 0, ByteArray.mk #[], [e, v.2]⟩ := by
 obtain ⟨ek, em, es, el⟩ := e
 have hw := zc7 (L := L) (d := d) (i := i) hl mulS (by decide)
 have hb : MB n (tpE (PS L ts d i) ⟨ek, em, es, el⟩) = match z4e mulS ts with
   | none => some (.inr (.inr (tpE (PS L ts d i) ⟨ek, em, es, el⟩)))
   | some j => z0a n (PS L ts.tail d i) >>= fun v => some (.inl (tpE v.1 ⟨6 + (j : Int), 0, ByteArray.mk #[], [⟨ek, em, es, el⟩, v.2]⟩)) := by
  unfold MB z19
  rw [if_pos (by rfl)]
  show (z0w (PS L ts d i) mulS).bind _ = _
  rw [hw]
  cases hs : z4e mulS ts with
  | none => simp only [Option.bind_some]; rfl
  | some j =>
   have hj := (z56 hs).2
   have hj : j < 3 := hj
   have h1 : decide (((j : Nat) : Int) < 0) = false := by simp
   have h2 : IntKind.i64.wrap (6 + (j : Int)) = 6 + (j : Int) := w64 (by omega) (by omega)
   simp only [Option.bind_some, h1, Bool.false_eq_true, if_false, h2]
   rfl
 unfold MF
 rw [z8n, hb]
 cases hs : z4e mulS ts with
 | none => rfl
 | some j =>
  simp only [Option.bind_eq_bind, Option.bind_assoc, Option.bind_some]
theorem zoq (hl : ts.length ≤ 2000) (n : Nat) (e : z03) : AF n (PS L ts d i) e = match z4e addS ts with
  | none => some (PS L ts d i, e)
  | some j => z0p n (PS L ts.tail d i) >>= fun v => AF n v.1 ⟨4 + (j : Int), 0, ByteArray.mk #[], [e, v.2]⟩ := by
 obtain ⟨ek, em, es, el⟩ := e
 have hw := zc7 (L := L) (d := d) (i := i) hl addS (by decide)
 have hb : AB n (tpE (PS L ts d i) ⟨ek, em, es, el⟩) = match z4e addS ts with
   | none => some (.inr (.inr (tpE (PS L ts d i) ⟨ek, em, es, el⟩)))
   | some j => z0p n (PS L ts.tail d i) >>= fun v => some (.inl (tpE v.1 ⟨4 + (j : Int), 0, ByteArray.mk #[], [⟨ek, em, es, el⟩, v.2]⟩)) := by
  unfold AB z1g
  rw [if_pos (by rfl)]
  show (z0w (PS L ts d i) addS).bind _ = _
  rw [hw]
  cases hs : z4e addS ts with
  | none => simp only [Option.bind_some]; rfl
  | some j =>
   have hj := (z56 hs).2
   have hj : j < 2 := hj
   have h1 : decide (((j : Nat) : Int) < 0) = false := by simp
   have h2 : IntKind.i64.wrap (4 + (j : Int)) = 4 + (j : Int) := w64 (by omega) (by omega)
   simp only [Option.bind_some, h1, Bool.false_eq_true, if_false, h2]
   rfl
 unfold AF
 rw [z8n, hb]
 cases hs : z4e addS ts with
 | none => rfl
 | some j =>
  simp only [Option.bind_eq_bind, Option.bind_assoc, Option.bind_some]
end
abbrev mkE : z3q → z00 → z00 × z03 := fun v a => (a, cE v)
structure PX (L i : Int) (f : Nat) : Prop where
 fac : ∀ (d : Nat) ts, d ≤ 24 → ts.length ≤ 2000 → TP L d i Prod.fst mkE (2 * f) (fun n => z0a n (PS L ts d i)) (z6n L f d ts)
 mul : ∀ (d : Nat) e ts, d ≤ 24 → ts.length ≤ 2000 → TP L d i Prod.fst mkE (2 * f) (fun n => MF n (PS L ts d i) (cE e)) (sMul L f d e ts)
 term : ∀ (d : Nat) ts, d ≤ 24 → ts.length ≤ 2000 → TP L d i Prod.fst mkE (2 * f) (fun n => z0p n (PS L ts d i)) (zbc L f d ts)
 add : ∀ (d : Nat) e ts, d ≤ 24 → ts.length ≤ 2000 → TP L d i Prod.fst mkE (2 * f) (fun n => AF n (PS L ts d i) (cE e)) (sAdd L f d e ts)
 exp : ∀ (d : Nat) ts, d ≤ 24 → ts.length ≤ 2000 → TP L d i Prod.fst mkE (2 * f) (fun n => z0t n (PS L ts d i)) (zbb L f d ts)
theorem z7x {ρ β : Type} {L d i : Int} {π : ρ → z00} {mk : β → z00 → ρ} {H : Nat} {x : Nat → Option ρ} : TP L d i π mk H x (.out : Rs β) := fun h => absurd rfl h
theorem zae {α β : Type} (x : Option (α × β)) : (x.bind fun v => some (v.1, v.2)) = x := by cases x <;> rfl
theorem z2k {a : z00} {c p : Int} (hc : c ≠ 0) (h : EP a c p) : a.f_e ≠ 0 := by rw [h.1]; exact hc
theorem zc8 {L i : Int} {ts : List Tok} {d : Nat} (hd : d ≤ 24) : z3k (PS L ts d i) = some (if d = 24 then (⟨ts.map tokT, L, 6, sAt L ts, d, i⟩, false) else (PS L ts ((d + 1 : Nat) : Int) i, true)) := by
 unfold z3k
 by_cases h : d = 24
 ·subst h
  rw [if_pos (by rfl), zaz]; rfl
 ·have : ((PS L ts (d : Int) i).f_deep == 24) = false := by
   show ((d : Int) == 24) = false
   simp; omega
  rw [this, if_neg (by decide), if_neg h]
  have hw : IntKind.i64.wrap ((d : Int) + 1) = ((d + 1 : Nat) : Int) := by rw [w64 (by omega) (by omega)]; omega
  show some ((⟨ts.map tokT, L, 0, 0, IntKind.i64.wrap ((d : Int) + 1), i⟩ : z00), true) = _
  rw [hw]; rfl
theorem px (L i : Int) : ∀ f, PX L i f := by
 intro f
 induction f with
 | zero => exact ⟨fun d ts _ _ => by simp only [z6n]; exact z7x, fun d e ts _ _ => by simp only [sMul]; exact z7x, fun d ts _ _ => by simp only [zbc]; exact z7x, fun d e ts _ _ => by simp only [sAdd]; exact z7x, fun d ts _ _ => by simp only [zbb]; exact z7x⟩
 | succ f ih =>
  have sf := suf L f
  refine ⟨fun d ts hd hl => ?_, fun d e ts hd hl => ?_, fun d ts hd hl => ?_, fun d e ts hd hl => ?_, fun d ts hd hl => ?_⟩
  ·-- a factor
   simp only [z6n]
   cases h1 : z2x (ByteArray.mk #[45]) ts with
   | true =>
    have hlt : ts.tail.length ≤ 2000 := by have := z35 h1; omega
    simp only [if_true]
    refine TP.up (H := 2 * f + 1) (x := fun n => z0r n (PS L ts d i)) rfl (fun n => by simp only [z0a, z8g, h1, Option.bind_eq_bind, Option.bind_some, if_true, zae]) ?_
    by_cases h24 : d = 24
    ·rw [if_pos h24]
     refine TP.up (H := 2 * f) (x := fun _ => some (⟨ts.map tokT, L, 6, sAt L ts, d, i⟩, zA)) rfl (fun n => by simp only [z0r, zc8 hd, if_pos h24, Option.bind_eq_bind, Option.bind_some]; rfl) ?_
     exact TP.err (fun n => rfl) (by decide) ⟨rfl, rfl⟩
    ·rw [if_neg h24]
     refine TP.up (H := 2 * f) (x := fun n => z0a n (PS L ts.tail ((d + 1 : Nat) : Int) i) >>= fun v3 => some ((z00.mk v3.1.f_l v3.1.f_end v3.1.f_e v3.1.f_at (IntKind.i64.wrap (v3.1.f_deep - 1)) v3.1.f_in), (z03.mk 3 0 (ByteArray.mk #[]) [v3.2]))) rfl (fun n => by
      simp only [z0r, zc8 hd, if_neg h24, Option.bind_eq_bind, Option.bind_some, Bool.not_true, Bool.false_eq_true, if_false, zfq hl, h1, if_true]) ?_
     refine TP.bind (ih.fac (d + 1) ts.tail (by omega) hlt) (fun v r hv => TP.pure (fun n => ?_)) (fun r c p hc he => z9i (fun n => .inl rfl) ⟨he.1, he.2⟩)
     have hw : IntKind.i64.wrap (((d + 1 : Nat) : Int) - 1) = (d : Int) := by rw [w64 (by omega) (by omega)]; omega
     show some ((⟨r.map tokT, L, 0, 0, IntKind.i64.wrap (((d + 1 : Nat) : Int) - 1), i⟩ : z00), _) = _
     rw [hw]
     simp only [mkE, cE, cEs]; rfl
   | false =>
    simp only [Bool.false_eq_true, if_false]
    cases h2 : z2x (ByteArray.mk #[40]) ts with
    | true =>
     have hlt : ts.tail.length ≤ 2000 := by have := z35 h2; omega
     simp only [if_true]
     refine TP.up (H := 2 * f + 1) (x := fun n => z0u n (PS L ts d i)) rfl (fun n => by simp only [z0a, z8g, h1, h2, Option.bind_eq_bind, Option.bind_some, if_true, Bool.false_eq_true, if_false, zae]) ?_
     by_cases h24 : d = 24
     ·rw [if_pos h24]
      refine TP.up (H := 2 * f) (x := fun _ => some (⟨ts.map tokT, L, 6, sAt L ts, d, i⟩, zA)) rfl (fun n => by simp only [z0u, zc8 hd, if_pos h24, Option.bind_eq_bind, Option.bind_some]; rfl) ?_
      exact TP.err (fun n => rfl) (by decide) ⟨rfl, rfl⟩
     ·rw [if_neg h24]
      refine TP.up (H := 2 * f) (x := fun n => z0t n (PS L ts.tail ((d + 1 : Nat) : Int) i) >>= fun v3 => z02 v3.1 (ByteArray.mk #[41]) >>= fun v4 => some ((z00.mk v4.f_l v4.f_end v4.f_e v4.f_at (IntKind.i64.wrap (v4.f_deep - 1)) v4.f_in), v3.2)) rfl (fun n => by
       simp only [z0u, zc8 hd, if_neg h24, Option.bind_eq_bind, Option.bind_some, Bool.not_true, Bool.false_eq_true, if_false, zfq hl, h2, if_true]) ?_
      refine TP.bind (ih.exp (d + 1) ts.tail (by omega) hlt) (fun v r hv => ?_) (fun r c p hc he => z9i (r := ((⟨r.1.f_l, r.1.f_end, r.1.f_e, r.1.f_at, IntKind.i64.wrap (r.1.f_deep - 1), r.1.f_in⟩ : z00), r.2)) (fun n => .inl (by rw [z6o (z2k hc he)]; rfl)) ⟨he.1, he.2⟩)
      have hr := (sf.exp _ _ _ _ hv).length_le
      refine TP.bind (π' := Prod.fst) (mk' := mkE) (k := fun n v4 => some ((z00.mk v4.f_l v4.f_end v4.f_e v4.f_at (IntKind.i64.wrap (v4.f_deep - 1)) v4.f_in), cE v)) (z44 (L := L) (d := ((d + 1 : Nat) : Int)) (i := i) (ts := r) (H := 2 * f) (by omega) (ByteArray.mk #[41])) (fun _ r' hv' => TP.pure (fun n => ?_)) (fun r c p hc he => z9i (fun n => .inl rfl) ⟨he.1, he.2⟩)
      have hw : IntKind.i64.wrap (((d + 1 : Nat) : Int) - 1) = (d : Int) := by rw [w64 (by omega) (by omega)]; omega
      show some ((⟨r'.map tokT, L, 0, 0, IntKind.i64.wrap (((d + 1 : Nat) : Int) - 1), i⟩ : z00), _) = _
      rw [hw]; rfl
    | false =>
     simp only [Bool.false_eq_true, if_false]
     cases h3 : sOf 2 ts with
     | true =>
      simp only [if_true]
      refine (TP.up (H := 2 * f) (x := fun n => z12 (PS L ts d i) >>= fun v6 => some (v6.1, (z03.mk 1 v6.2 (ByteArray.mk #[]) []))) rfl (fun n => by simp only [z0a, z8g, of_P, h1, h2, h3, Option.bind_eq_bind, Option.bind_some, if_true, Bool.false_eq_true, if_false]) ?_).mono (by omega)
      refine TP.bind (zkd hl) (fun v r hv => TP.pure (fun n => ?_)) (fun r c p hc he => z9i (fun n => .inl rfl) ⟨he.1, he.2⟩)
      simp only [mkE, cE, cEs]
     | false =>
      simp only [Bool.false_eq_true, if_false]
      refine (TP.up (H := 2 * f) (x := fun n => z08 (PS L ts d i) >>= fun v7 => some (v7.1, (z03.mk 2 0 v7.2 []))) rfl (fun n => by simp only [z0a, z8g, of_P, h1, h2, h3, Option.bind_eq_bind, Option.bind_some, Bool.false_eq_true, if_false]) ?_).mono (by omega)
      refine TP.bind (z64 hl) (fun v r hv => TP.pure (fun n => ?_)) (fun r c p hc he => z9i (fun n => .inl rfl) ⟨he.1, he.2⟩)
      simp only [mkE, cE, cEs]
  ·-- products
   simp only [sMul]
   cases hs : z4e mulS ts with
   | none => exact TP.pure (fun n => by rw [zop hl, hs])
   | some j =>
    have hlt := (z56 hs).1
    refine (TP.eq (y := fun n => z0a n (PS L ts.tail d i) >>= fun v => MF n v.1 ⟨6 + (j : Int), 0, ByteArray.mk #[], [cE e, v.2]⟩) ?_ (fun n => by rw [zop hl, hs])).mono (show 2 * f ≤ 2 * (f + 1) by omega)
    refine TP.bind (ih.fac d ts.tail hd (by omega)) (fun v r hv => ?_) (fun r c p hc he => z9i (fun n => .inl (MF_e (z2k hc he) n _)) ⟨he.1, he.2⟩)
    have hr := (sf.fac _ _ _ _ hv).length_le
    have := ih.mul d ⟨6 + (j : Int), 0, ByteArray.mk #[], [e, v]⟩ r hd (by omega)
    simp only [cE, cEs] at this
    exact this
  ·-- a term
   simp only [zbc]
   refine TP.up (H := 2 * f + 1) (x := fun n => z05 n (PS L ts d i) mulS 6) rfl (fun n => by simp only [z0p, Option.bind_eq_bind, zae]; rfl) ?_
   refine TP.up (H := 2 * f) (x := fun n => z0a n (PS L ts d i) >>= fun v1 => MF n v1.1 v1.2) rfl (fun n => rfl) ?_
   refine TP.bind (ih.fac d ts hd hl) (fun v r hv => ?_) (fun r c p hc he => z9i (fun n => .inl (MF_e (z2k hc he) n _)) ⟨he.1, he.2⟩)
   have hr := (sf.fac _ _ _ _ hv).length_le
   exact ih.mul d v r hd (by omega)
  ·-- sums
   simp only [sAdd]
   cases hs : z4e addS ts with
   | none => exact TP.pure (fun n => by rw [zoq hl, hs])
   | some j =>
    have hlt := (z56 hs).1
    refine (TP.eq (y := fun n => z0p n (PS L ts.tail d i) >>= fun v => AF n v.1 ⟨4 + (j : Int), 0, ByteArray.mk #[], [cE e, v.2]⟩) ?_ (fun n => by rw [zoq hl, hs])).mono (show 2 * f ≤ 2 * (f + 1) by omega)
    refine TP.bind (ih.term d ts.tail hd (by omega)) (fun v r hv => ?_) (fun r c p hc he => z9i (fun n => .inl (AF_e (z2k hc he) n _)) ⟨he.1, he.2⟩)
    have hr := (sf.term _ _ _ _ hv).length_le
    have := ih.add d ⟨4 + (j : Int), 0, ByteArray.mk #[], [e, v]⟩ r hd (by omega)
    simp only [cE, cEs] at this
    exact this
  ·-- an expression
   simp only [zbb]
   refine TP.up (H := 2 * f + 1) (x := fun n => z06 n (PS L ts d i) addS 4) rfl (fun n => by simp only [z0t, Option.bind_eq_bind, zae]; rfl) ?_
   refine TP.up (H := 2 * f) (x := fun n => z0p n (PS L ts d i) >>= fun v1 => AF n v1.1 v1.2) rfl (fun n => rfl) ?_
   refine TP.bind (ih.term d ts hd hl) (fun v r hv => ?_) (fun r c p hc he => z9i (fun n => .inl (AF_e (z2k hc he) n _)) ⟨he.1, he.2⟩)
   have hr := (sf.term _ _ _ _ hv).length_le
   exact ih.add d v r hd (by omega)
end Go.Proofs.YtokjbpmjdcbogaaDoor.Abs.Par
/- The program's reader reads comparisons and plain statements as parsing does. -/
namespace Go.Proofs.YtokjbpmjdcbogaaDoor.Abs.Par
open Go Go.RowKit Wri
set_option linter.unusedVariables false
set_option linter.unusedSimpArgs false
/-! ### Fuel -/
theorem z0o {α β : Type} {o : Rs α} {k : α → List Tok → Rs β} (h : o.bind k = .out) : o = .out ∨ ∃ w s, o = .ok w s ∧ k w s = .out := by
 cases o with
 | ok w s => exact .inr ⟨w, s, rfl, h⟩
 | er c p => cases h
 | out => exact .inl rfl
theorem z39 {L : Int} {w : ByteArray} {ts : List Tok} : z4o L w ts ≠ .out := by unfold z4o; split <;> simp
theorem z4p {L : Int} {ts : List Tok} : z6a L ts ≠ .out := by
 cases ts with
 | nil => simp [z6a]
 | cons t r => simp only [z6a]; split <;> simp
theorem zfr {L : Int} {ts : List Tok} : sNum L ts ≠ .out := by
 cases ts with
 | nil => simp [sNum]
 | cons t r => simp only [sNum]; split <;> simp
structure Fu (L : Int) (f : Nat) : Prop where
 fac : ∀ d ts, 4 * ts.length + 1 ≤ f → z6n L f d ts ≠ .out
 mul : ∀ d e ts, 4 * ts.length + 1 ≤ f → sMul L f d e ts ≠ .out
 term : ∀ d ts, 4 * ts.length + 2 ≤ f → zbc L f d ts ≠ .out
 add : ∀ d e ts, 4 * ts.length + 2 ≤ f → sAdd L f d e ts ≠ .out
 exp : ∀ d ts, 4 * ts.length + 3 ≤ f → zbb L f d ts ≠ .out
theorem fu (L : Int) : ∀ f, Fu L f := by
 intro f
 induction f with
 | zero => exact ⟨fun d ts h => by omega, fun d e ts h => by omega, fun d ts h => by omega, fun d e ts h => by omega, fun d ts h => by omega⟩
 | succ f ih =>
  have sf := suf L f
  refine ⟨fun d ts hf h => ?_, fun d e ts hf h => ?_, fun d ts hf h => ?_, fun d e ts hf h => ?_, fun d ts hf h => ?_⟩
  ·simp only [z6n] at h
   split at h
   ·rename_i h1
    have := z35 h1
    split at h
    ·cases h
    ·rcases z0o h with h | ⟨w, s, h2, h3⟩
     ·exact ih.fac _ _ (by omega) h
     ·cases h3
   ·split at h
    ·rename_i h1
     have := z35 h1
     split at h
     ·cases h
     ·rcases z0o h with h | ⟨w, s, h2, h3⟩
      ·exact ih.exp _ _ (by omega) h
      ·rcases z0o h3 with h | ⟨w, s, h4, h5⟩
       ·exact z39 h
       ·cases h5
    ·split at h
     ·rcases z0o h with h | ⟨w, s, h2, h3⟩
      ·exact zfr h
      ·cases h3
     ·rcases z0o h with h | ⟨w, s, h2, h3⟩
      ·exact z4p h
      ·cases h3
  ·simp only [sMul] at h
   split at h
   ·cases h
   ·rename_i j hj
    have := (z56 hj).1
    rcases z0o h with h | ⟨w, s, h2, h3⟩
    ·exact ih.fac _ _ (by omega) h
    ·have := (sf.fac _ _ _ _ h2).length_le
     exact ih.mul _ _ _ (by omega) h3
  ·simp only [zbc] at h
   rcases z0o h with h | ⟨w, s, h2, h3⟩
   ·exact ih.fac _ _ (by omega) h
   ·have := (sf.fac _ _ _ _ h2).length_le
    exact ih.mul _ _ _ (by omega) h3
  ·simp only [sAdd] at h
   split at h
   ·cases h
   ·rename_i j hj
    have := (z56 hj).1
    rcases z0o h with h | ⟨w, s, h2, h3⟩
    ·exact ih.term _ _ (by omega) h
    ·have := (sf.term _ _ _ _ h2).length_le
     exact ih.add _ _ _ (by omega) h3
  ·simp only [zbb] at h
   rcases z0o h with h | ⟨w, s, h2, h3⟩
   ·exact ih.term _ _ (by omega) h
   ·have := (sf.term _ _ _ _ h2).length_le
    exact ih.add _ _ _ (by omega) h3
/-! ### What comparisons and plain statements are -/
section
variable (L : Int)
def eX (ts : List Tok) : Rs z3q := zbb L (4 * ts.length + 3) 0 ts
def cmpS : List ByteArray := [(ByteArray.mk #[61, 61]), (ByteArray.mk #[33, 61]), (ByteArray.mk #[60]), (ByteArray.mk #[60, 61]), (ByteArray.mk #[62]), (ByteArray.mk #[62, 61])]
def zc9 (ts : List Tok) : Rs z7b := (z4o L (ByteArray.mk #[40]) ts).bind fun _ r1 => (eX L r1).bind fun l r2 => match z4e cmpS r2 with
 | none => .er 5 (sAt L r2)
 | some j => (eX L r2.tail).bind fun r r3 => (z4o L (ByteArray.mk #[41]) r3).bind fun _ r4 => .ok ⟨1 + (j : Int), l, r⟩ r4
abbrev nB : ByteArray := ByteArray.mk #[]
def zei (ts : List Tok) : Rs z1r := (z6a L ts).bind fun n r1 => (z4o L (ByteArray.mk #[46]) r1).bind fun _ r2 => (z6a L r2).bind fun t r3 => (z4o L (ByteArray.mk #[40]) r3).bind fun _ r4 =>
 (eX L r4).bind fun e r5 => (z4o L (ByteArray.mk #[41]) r5).bind fun _ r6 => (z4o L (ByteArray.mk #[59]) r6).bind fun _ r7 => .ok (.mk 4 n t e zC [] [] []) r7
def z92 (ts : List Tok) : Rs z1r := (zc9 L ts).bind fun c r1 => (z4o L (ByteArray.mk #[59]) r1).bind fun _ r2 => .ok (.mk 6 nB nB zE c [] [] []) r2
def zb0 (ts : List Tok) : Rs z1r := (z6a L ts).bind fun n r1 => (z4o L (ByteArray.mk #[59]) r1).bind fun _ r2 => .ok (.mk 7 n nB zE zC [] [] []) r2
def z93 (ts : List Tok) : Rs z1r := (z6a L ts).bind fun n r1 => (z4o L (ByteArray.mk #[61]) r1).bind fun _ r2 => (eX L r2).bind fun e r3 => (z4o L (ByteArray.mk #[59]) r3).bind fun _ r4 => .ok (.mk 1 n nB e zC [] [] []) r4
end
section
variable {L : Int} {ts r : List Tok}
theorem zki : eX L ts ≠ .out := (fu L _).exp _ _ (Nat.le_refl _)
theorem za3 {v : z3q} (h : eX L ts = .ok v r) : r <:+ ts := (suf L _).exp _ _ _ _ h
theorem zej : zc9 L ts ≠ .out := fun h => by
 unfold zc9 at h
 rcases z0o h with h | ⟨_, r1, _, h⟩
 ·exact z39 h
 rcases z0o h with h | ⟨l, r2, _, h⟩
 ·exact zki h
 split at h
 ·cases h
 rcases z0o h with h | ⟨_, r3, _, h⟩
 ·exact zki h
 rcases z0o h with h | ⟨_, r4, _, h⟩
 ·exact z39 h
 ·cases h
theorem z6s {v : z7b} (h : zc9 L ts = .ok v r) : r <:+ ts ∧ r.length < ts.length := by
 unfold zc9 at h
 obtain ⟨_, r1, h1, h⟩ := bind_ok h
 obtain ⟨l, r2, h2, h⟩ := bind_ok h
 split at h
 ·cases h
 obtain ⟨e, r3, h3, h⟩ := bind_ok h
 obtain ⟨_, r4, h4, h⟩ := bind_ok h
 injection h with _ h; subst h
 have q1 := z1i h1
 have q2 := za3 h2
 have q3 := za3 h3
 have q4 := z1i h4
 have q := q4.1.trans (q3.trans ((List.tail_suffix r2).trans q2))
 exact ⟨q.trans q1.1, by have := q.length_le; omega⟩
theorem zn0 : zei L ts ≠ .out := fun h => by
 unfold zei at h
 rcases z0o h with h | ⟨_, _, _, h⟩
 ·exact z4p h
 rcases z0o h with h | ⟨_, _, _, h⟩
 ·exact z39 h
 rcases z0o h with h | ⟨_, _, _, h⟩
 ·exact z4p h
 rcases z0o h with h | ⟨_, _, _, h⟩
 ·exact z39 h
 rcases z0o h with h | ⟨_, _, _, h⟩
 ·exact zki h
 rcases z0o h with h | ⟨_, _, _, h⟩
 ·exact z39 h
 rcases z0o h with h | ⟨_, _, _, h⟩
 ·exact z39 h
 ·cases h
theorem zkj {v : z1r} (h : zei L ts = .ok v r) : r <:+ ts := by
 unfold zei at h
 obtain ⟨_, r1, h1, h⟩ := bind_ok h
 obtain ⟨_, r2, h2, h⟩ := bind_ok h
 obtain ⟨_, r3, h3, h⟩ := bind_ok h
 obtain ⟨_, r4, h4, h⟩ := bind_ok h
 obtain ⟨_, r5, h5, h⟩ := bind_ok h
 obtain ⟨_, r6, h6, h⟩ := bind_ok h
 obtain ⟨_, r7, h7, h⟩ := bind_ok h
 injection h with _ h; subst h
 exact (z1i h7).1.trans ((z1i h6).1.trans ((za3 h5).trans ((z1i h4).1.trans ((z26 h3).1.trans ((z1i h2).1.trans (z26 h1).1)))))
theorem ziy : z92 L ts ≠ .out := fun h => by
 unfold z92 at h
 rcases z0o h with h | ⟨_, _, _, h⟩
 ·exact zej h
 rcases z0o h with h | ⟨_, _, _, h⟩
 ·exact z39 h
 ·cases h
theorem zh2 {v : z1r} (h : z92 L ts = .ok v r) : r <:+ ts := by
 unfold z92 at h
 obtain ⟨_, r1, h1, h⟩ := bind_ok h
 obtain ⟨_, r2, h2, h⟩ := bind_ok h
 injection h with _ h; subst h
 exact (z1i h2).1.trans (z6s h1).1
theorem zkk : zb0 L ts ≠ .out := fun h => by
 unfold zb0 at h
 rcases z0o h with h | ⟨_, _, _, h⟩
 ·exact z4p h
 rcases z0o h with h | ⟨_, _, _, h⟩
 ·exact z39 h
 ·cases h
theorem ziz {v : z1r} (h : zb0 L ts = .ok v r) : r <:+ ts := by
 unfold zb0 at h
 obtain ⟨_, r1, h1, h⟩ := bind_ok h
 obtain ⟨_, r2, h2, h⟩ := bind_ok h
 injection h with _ h; subst h
 exact (z1i h2).1.trans (z26 h1).1
theorem zj0 : z93 L ts ≠ .out := fun h => by
 unfold z93 at h
 rcases z0o h with h | ⟨_, _, _, h⟩
 ·exact z4p h
 rcases z0o h with h | ⟨_, _, _, h⟩
 ·exact z39 h
 rcases z0o h with h | ⟨_, _, _, h⟩
 ·exact zki h
 rcases z0o h with h | ⟨_, _, _, h⟩
 ·exact z39 h
 ·cases h
theorem zh3 {v : z1r} (h : z93 L ts = .ok v r) : r <:+ ts ∧ r.length < ts.length := by
 unfold z93 at h
 obtain ⟨_, r1, h1, h⟩ := bind_ok h
 obtain ⟨_, r2, h2, h⟩ := bind_ok h
 obtain ⟨_, r3, h3, h⟩ := bind_ok h
 obtain ⟨_, r4, h4, h⟩ := bind_ok h
 injection h with _ h; subst h
 have q1 := z26 h1
 have q := (z1i h4).1.trans ((za3 h3).trans (z1i h2).1)
 exact ⟨q.trans q1.1, by have := q.length_le; omega⟩
end
/-! ### The program's -/
theorem zkl {a : z00} (h : a.f_e ≠ 0) : z0w a [(ByteArray.mk #[61, 61]), (ByteArray.mk #[33, 61]), (ByteArray.mk #[60]), (ByteArray.mk #[60, 61]), (ByteArray.mk #[62]), (ByteArray.mk #[62, 61])] = some (a, -1) := zix h _ (by decide)
instance : Inhabited z00 := ⟨⟨[], 0, 0, 0, 0, 0⟩⟩
instance : Inhabited z03 := ⟨zA⟩
instance : Inhabited z3p := ⟨⟨0, zA, zA⟩⟩
def zCA : z3p := ⟨0, zA, zA⟩
def zSA : z04 := .mk 0 nB nB zA zCA [] [] []
instance : Inhabited z04 := ⟨zSA⟩
instance : Inhabited ByteArray := ⟨nB⟩
theorem z2f {ρ : Type} {P : ρ → Prop} {x : Option ρ} {H : Nat} {r : ρ} (e : x = some r) (p : P r) : ∃ r, P r ∧ ∀ n, Sn n H x r := ⟨r, p, fun _ => .inl e⟩
theorem eP {a : z00} (h : a.f_e ≠ 0) : (∀ w, z02 a w = some a) ∧ z08 a = some (a, ByteArray.mk #[]) ∧ z12 a = some (a, 0) ∧ z2q a = some (a, vA) ∧ (∀ w, z09 a w = some (a, false)) ∧ (∀ c, z18 a c = some a) ∧ z0w a [(ByteArray.mk #[61, 61]), (ByteArray.mk #[33, 61]), (ByteArray.mk #[60]), (ByteArray.mk #[60, 61]), (ByteArray.mk #[62]), (ByteArray.mk #[62, 61])] = some (a, -1) := ⟨z6o h, zbq h, zom h, zoo h, z7v h, zbp h, zkl h⟩
theorem neg1 : decide ((-1 : Int) < 0) = true := rfl
theorem zfs {L i : Int} {ts : List Tok} {H : Nat} (hl : ts.length ≤ 2000) : TP L 0 i Prod.fst mkE H (fun _ => z2q (PS L ts 0 i)) (eX L ts) :=
 ((px L i _).exp 0 ts (by omega) hl).unf.mono (Nat.zero_le _)
abbrev mkC : z7b → z00 → z00 × z3p := fun v a => (a, cC v)
theorem z2g {r ts : List Tok} (h : r <:+ ts) (hl : ts.length ≤ 2000) : r.length ≤ 2000 := by have := h.length_le; omega
theorem zj1 {L i : Int} {ts : List Tok} {H : Nat} (hl : ts.length ≤ 2000) : TP L 0 i Prod.fst mkC H (fun _ => z2r (PS L ts 0 i)) (zc9 L ts) := by
 unfold zc9 z2r
 refine TP.bind (π' := Prod.fst) (mk' := mkC) (z44 hl _) (fun _ r1 h1 => ?_) (fun r c p hc he => z2f (by simp only [eP (a := r) (z2k hc he), Option.bind_eq_bind, Option.bind_some, neg1, if_true]; rfl) ⟨he.1, he.2⟩)
 have l1 := z2g (z1i h1).1 hl
 refine TP.bind (π' := Prod.fst) (mk' := mkC) (zfs l1) (fun l r2 h2 => ?_) (fun r c p hc he => z2f (by simp only [eP (a := r.1) (z2k hc he), Option.bind_eq_bind, Option.bind_some, neg1, if_true]; rfl) ⟨he.1, he.2⟩)
 have l2 := z2g (za3 h2) l1
 have hw := zc7 (L := L) (d := 0) (i := i) l2 cmpS (by decide)
 cases hs : z4e cmpS r2 with
 | none =>
  rw [hs] at hw
  refine TP.err (r := ((⟨r2.map tokT, L, 5, sAt L r2, 0, i⟩ : z00), ⟨0, cE l, zA⟩)) (fun n => ?_) (by decide) ⟨rfl, rfl⟩
  show (z0w (PS L r2 0 i) cmpS).bind _ = _
  rw [hw]
  simp only [Option.bind_some, neg1, if_true, zaz, Option.bind_eq_bind]
  rfl
 | some j =>
  rw [hs] at hw
  have hj := (z56 hs).2
  have hj : j < 6 := hj
  have q1 : decide (((j : Nat) : Int) < 0) = false := by simp
  have q2 : IntKind.i64.wrap (1 + (j : Int)) = 1 + (j : Int) := w64 (by omega) (by omega)
  have l3 : r2.tail.length ≤ 2000 := by have := (z56 hs).1; omega
  refine TP.eq (y := fun _ => z2q (PS L r2.tail 0 i) >>= fun v5 => z02 v5.1 (ByteArray.mk #[41]) >>= fun v6 => some (v6, (z3p.mk (1 + (j : Int)) (cE l) v5.2))) ?_ (fun n => by
   show (z0w (PS L r2 0 i) cmpS).bind _ = _
   rw [hw]
   simp only [Option.bind_some, q1, Bool.false_eq_true, if_false, q2])
  refine TP.bind (π' := Prod.fst) (mk' := mkC) (zfs l3) (fun e r3 h3 => ?_) (fun r c p hc he => z2f (by simp only [eP (a := r.1) (z2k hc he), Option.bind_eq_bind, Option.bind_some, neg1, if_true]; rfl) ⟨he.1, he.2⟩)
  have l4 := z2g (za3 h3) l3
  refine TP.bind (π' := Prod.fst) (mk' := mkC) (z44 l4 _) (fun _ r4 h4 => TP.pure (fun n => rfl)) (fun r c p hc he => z2f (by simp only [eP (a := r) (z2k hc he), Option.bind_eq_bind, Option.bind_some, neg1, if_true]; rfl) ⟨he.1, he.2⟩)
abbrev mkS : z1r → z00 → z00 × z04 := fun v a => (a, cS v)
theorem cZ : cE zE = zA := by simp only [zE, cE, cEs]; rfl
theorem cZC : cC zC = zCA := by unfold cC zC zCA; simp only [cZ]
theorem zor {L i : Int} {ts : List Tok} {H : Nat} (hl : ts.length ≤ 2000) : TP L 0 i Prod.fst mkS H (fun _ => z3s (PS L ts 0 i)) (zei L ts) := by
 unfold zei z3s
 refine TP.bind (π' := Prod.fst) (mk' := mkS) (z64 hl) (fun n r1 h1 => ?_) (fun r c p hc he => z2f (by simp only [eP (a := r.1) (z2k hc he), Option.bind_eq_bind, Option.bind_some, neg1, if_true]; rfl) ⟨he.1, he.2⟩)
 have l1 := z2g (z26 h1).1 hl
 refine TP.bind (π' := Prod.fst) (mk' := mkS) (z44 l1 _) (fun _ r2 h2 => ?_) (fun r c p hc he => z2f (by simp only [eP (a := r) (z2k hc he), Option.bind_eq_bind, Option.bind_some, neg1, if_true]; rfl) ⟨he.1, he.2⟩)
 have l2 := z2g (z1i h2).1 l1
 refine TP.bind (π' := Prod.fst) (mk' := mkS) (z64 l2) (fun t r3 h3 => ?_) (fun r c p hc he => z2f (by simp only [eP (a := r.1) (z2k hc he), Option.bind_eq_bind, Option.bind_some, neg1, if_true]; rfl) ⟨he.1, he.2⟩)
 have l3 := z2g (z26 h3).1 l2
 refine TP.bind (π' := Prod.fst) (mk' := mkS) (z44 l3 _) (fun _ r4 h4 => ?_) (fun r c p hc he => z2f (by simp only [eP (a := r) (z2k hc he), Option.bind_eq_bind, Option.bind_some, neg1, if_true]; rfl) ⟨he.1, he.2⟩)
 have l4 := z2g (z1i h4).1 l3
 refine TP.bind (π' := Prod.fst) (mk' := mkS) (zfs l4) (fun e r5 h5 => ?_) (fun r c p hc he => z2f (by simp only [eP (a := r.1) (z2k hc he), Option.bind_eq_bind, Option.bind_some, neg1, if_true]; rfl) ⟨he.1, he.2⟩)
 have l5 := z2g (za3 h5) l4
 refine TP.bind (π' := Prod.fst) (mk' := mkS) (z44 l5 _) (fun _ r6 h6 => ?_) (fun r c p hc he => z2f (by simp only [eP (a := r) (z2k hc he), Option.bind_eq_bind, Option.bind_some, neg1, if_true]; rfl) ⟨he.1, he.2⟩)
 have l6 := z2g (z1i h6).1 l5
 refine TP.bind (π' := Prod.fst) (mk' := mkS) (z44 l6 _) (fun _ r7 h7 => TP.pure (fun n => ?_)) (fun r c p hc he => z2f (by simp only [eP (a := r) (z2k hc he), Option.bind_eq_bind, Option.bind_some, neg1, if_true]; rfl) ⟨he.1, he.2⟩)
 simp only [mkS, cS, cZC, cL, cA]
 rfl
theorem zkm {L i : Int} {ts : List Tok} {H : Nat} (hl : ts.length ≤ 2000) : TP L 0 i Prod.fst mkS H (fun _ => z3b (PS L ts 0 i)) (z92 L ts) := by
 unfold z92 z3b
 refine TP.bind (π' := Prod.fst) (mk' := mkS) (zj1 hl) (fun n r1 h1 => ?_) (fun r c p hc he => z2f (by simp only [eP (a := r.1) (z2k hc he), Option.bind_eq_bind, Option.bind_some, neg1, if_true]; rfl) ⟨he.1, he.2⟩)
 have l1 := z2g (z6s h1).1 hl
 refine TP.bind (π' := Prod.fst) (mk' := mkS) (z44 l1 _) (fun _ r2 h2 => TP.pure (fun n => ?_)) (fun r c p hc he => z2f (by simp only [eP (a := r) (z2k hc he), Option.bind_eq_bind, Option.bind_some, neg1, if_true]; rfl) ⟨he.1, he.2⟩)
 simp only [mkS, cS, cZ, cL, cA]
 rfl
theorem zn1 {L i : Int} {ts : List Tok} {H : Nat} (hl : ts.length ≤ 2000) : TP L 0 i Prod.fst mkS H (fun _ => z3l (PS L ts 0 i)) (zb0 L ts) := by
 unfold zb0 z3l
 refine TP.bind (π' := Prod.fst) (mk' := mkS) (z64 hl) (fun n r1 h1 => ?_) (fun r c p hc he => z2f (by simp only [eP (a := r.1) (z2k hc he), Option.bind_eq_bind, Option.bind_some, neg1, if_true]; rfl) ⟨he.1, he.2⟩)
 have l1 := z2g (z26 h1).1 hl
 refine TP.bind (π' := Prod.fst) (mk' := mkS) (z44 l1 _) (fun _ r2 h2 => TP.pure (fun n => ?_)) (fun r c p hc he => z2f (by simp only [eP (a := r) (z2k hc he), Option.bind_eq_bind, Option.bind_some, neg1, if_true]; rfl) ⟨he.1, he.2⟩)
 simp only [mkS, cS, cZ, cZC, cL, cA]
 rfl
theorem zkn {L i : Int} {ts : List Tok} {H : Nat} (hl : ts.length ≤ 2000) : TP L 0 i Prod.fst mkS H (fun _ => z3c (PS L ts 0 i)) (z93 L ts) := by
 unfold z93 z3c
 refine TP.bind (π' := Prod.fst) (mk' := mkS) (z64 hl) (fun n r1 h1 => ?_) (fun r c p hc he => z2f (by simp only [eP (a := r.1) (z2k hc he), Option.bind_eq_bind, Option.bind_some, neg1, if_true]; rfl) ⟨he.1, he.2⟩)
 have l1 := z2g (z26 h1).1 hl
 refine TP.bind (π' := Prod.fst) (mk' := mkS) (z44 l1 _) (fun _ r2 h2 => ?_) (fun r c p hc he => z2f (by simp only [eP (a := r) (z2k hc he), Option.bind_eq_bind, Option.bind_some, neg1, if_true]; rfl) ⟨he.1, he.2⟩)
 have l2 := z2g (z1i h2).1 l1
 refine TP.bind (π' := Prod.fst) (mk' := mkS) (zfs l2) (fun e r3 h3 => ?_) (fun r c p hc he => z2f (by simp only [eP (a := r.1) (z2k hc he), Option.bind_eq_bind, Option.bind_some, neg1, if_true]; rfl) ⟨he.1, he.2⟩)
 have l3 := z2g (za3 h3) l2
 refine TP.bind (π' := Prod.fst) (mk' := mkS) (z44 l3 _) (fun _ r4 h4 => TP.pure (fun n => ?_)) (fun r c p hc he => z2f (by simp only [eP (a := r) (z2k hc he), Option.bind_eq_bind, Option.bind_some, neg1, if_true]; rfl) ⟨he.1, he.2⟩)
 simp only [mkS, cS, cZC, cL, cA]
 rfl
section
variable {a : z00} (h : a.f_e ≠ 0)
include h
end
end Go.Proofs.YtokjbpmjdcbogaaDoor.Abs.Par
/- The program's reader reads statements as parsing does. -/
namespace Go.Proofs.YtokjbpmjdcbogaaDoor.Abs.Par
open Go Go.RowKit Wri
set_option linter.unusedVariables false
set_option linter.unusedSimpArgs false
/-! ### What statements are -/
section
variable (L : Int)
mutual
def z7e : Nat → Nat → List Tok → Rs (List z1r)
 | 0, _, _ => .out
 | f + 1, i, ts => match zbd f i ts with
  | none => .ok [] ts
  | some o => o.bind fun s r => (z7e f i r).bind fun l r' => .ok (s :: l) r'
def zbd : Nat → Nat → List Tok → Option (Rs z1r)
 | 0, _, _ => some .out
 | f + 1, i, ts =>
  if z2x (ByteArray.mk #[105, 102]) ts then some ((zc9 L ts.tail).bind fun c r1 => (z7f f i r1).bind fun b r2 =>
   if z2x (ByteArray.mk #[101, 108, 115, 101]) r2 then (z7f f i r2.tail).bind fun l r3 => .ok (.mk 2 nB nB zE c b l []) r3 else .ok (.mk 2 nB nB zE c b [] []) r2)
  else if z2x (ByteArray.mk #[119, 104, 105, 108, 101]) ts then some ((zc9 L ts.tail).bind fun c r1 => (z7f f i r1).bind fun b r2 => .ok (.mk 3 nB nB zE c b [] []) r2)
  else if z2x (ByteArray.mk #[115, 101, 110, 100]) ts then some (zei L ts.tail)
  else if z2x (ByteArray.mk #[114, 101, 99, 118]) ts then some ((z6a L ts.tail).bind fun n r1 => (z4o L (ByteArray.mk #[123]) r1).bind fun _ r2 => (sArm f i r2).bind fun a r3 => (zbe f i r3).bind fun l r4 =>
   (z4o L (ByteArray.mk #[125]) r4).bind fun _ r5 => .ok (.mk 5 n nB zE zC [] [] (a :: l)) r5)
  else if z2x (ByteArray.mk #[97, 115, 115, 101, 114, 116]) ts then some (z92 L ts.tail)
  else if z2x (ByteArray.mk #[105, 110, 112, 117, 116]) ts then some (zb0 L ts.tail)
  else if sOf 1 ts then some (z93 L ts)
  else none
def sArm : Nat → Nat → List Tok → Rs z5n
 | 0, _, _ => .out
 | f + 1, i, ts => (z6a L ts).bind fun t r1 => (z4o L (ByteArray.mk #[40]) r1).bind fun _ r2 => (z6a L r2).bind fun v r3 => (z4o L (ByteArray.mk #[41]) r3).bind fun _ r4 => (z7f f i r4).bind fun b r5 => .ok (.mk t v b) r5
def zbe : Nat → Nat → List Tok → Rs (List z5n)
 | 0, _, _ => .out
 | f + 1, i, ts => if z2x (ByteArray.mk #[125]) ts then .ok [] ts else (sArm f i ts).bind fun a r => (zbe f i r).bind fun l r' => .ok (a :: l) r'
def z7f : Nat → Nat → List Tok → Rs (List z1r)
 | 0, _, _ => .out
 | f + 1, i, ts => if z2x (ByteArray.mk #[123]) ts && decide (i = 24) then .er 6 (sAt L ts)
  else (z4o L (ByteArray.mk #[123]) ts).bind fun _ r1 => (z7e f (i + 1) r1).bind fun b r2 => (z4o L (ByteArray.mk #[125]) r2).bind fun _ r3 => .ok b r3
end
end
structure SufS (L : Int) (f : Nat) : Prop where
 stmts : ∀ i ts v r, z7e L f i ts = .ok v r → r <:+ ts
 stmt : ∀ i ts v r, zbd L f i ts = some (.ok v r) → r <:+ ts ∧ r.length < ts.length
 arm : ∀ i ts v r, sArm L f i ts = .ok v r → r <:+ ts ∧ r.length < ts.length
 arms : ∀ i ts v r, zbe L f i ts = .ok v r → r <:+ ts
 block : ∀ i ts v r, z7f L f i ts = .ok v r → r <:+ ts
theorem zek {r s ts : List Tok} (h : r <:+ s) (q : s <:+ ts) (w : s.length < ts.length) : r <:+ ts ∧ r.length < ts.length := ⟨h.trans q, by have := h.length_le; omega⟩
theorem z59 {w : ByteArray} {r ts : List Tok} (h : z2x w ts = true) (q : r <:+ ts.tail) : r <:+ ts ∧ r.length < ts.length := zek q (List.tail_suffix ts) (z35 h)
theorem sufS (L : Int) : ∀ f, SufS L f := by
 intro f
 induction f with
 | zero => exact ⟨fun i ts v r h => by simp [z7e] at h, fun i ts v r h => by simp [zbd] at h, fun i ts v r h => by simp [sArm] at h, fun i ts v r h => by simp [zbe] at h, fun i ts v r h => by simp [z7f] at h⟩
 | succ f ih =>
  refine ⟨fun i ts v r h => ?_, fun i ts v r h => ?_, fun i ts v r h => ?_, fun i ts v r h => ?_, fun i ts v r h => ?_⟩
  ·simp only [z7e] at h
   split at h
   ·injection h with _ h; subst h; exact List.suffix_refl _
   ·rename_i o ho
    obtain ⟨s, r1, h1, h⟩ := bind_ok h
    obtain ⟨l, r2, h2, h⟩ := bind_ok h
    injection h with _ h; subst h
    subst h1
    exact (ih.stmts _ _ _ _ h2).trans (ih.stmt _ _ _ _ ho).1
  ·simp only [zbd] at h
   split at h
   ·rename_i hs
    injection h with h
    obtain ⟨c, r1, h1, h⟩ := bind_ok h
    obtain ⟨b, r2, h2, h⟩ := bind_ok h
    have q := (ih.block _ _ _ _ h2).trans (z6s h1).1
    split at h
    ·obtain ⟨l, r3, h3, h⟩ := bind_ok h
     injection h with _ h; subst h
     exact z59 hs ((ih.block _ _ _ _ h3).trans ((List.tail_suffix r2).trans q))
    ·injection h with _ h; subst h
     exact z59 hs q
   split at h
   ·rename_i hs
    injection h with h
    obtain ⟨c, r1, h1, h⟩ := bind_ok h
    obtain ⟨b, r2, h2, h⟩ := bind_ok h
    injection h with _ h; subst h
    exact z59 hs ((ih.block _ _ _ _ h2).trans (z6s h1).1)
   split at h
   ·rename_i hs
    injection h with h
    exact z59 hs (zkj h)
   split at h
   ·rename_i hs
    injection h with h
    obtain ⟨n, r1, h1, h⟩ := bind_ok h
    obtain ⟨_, r2, h2, h⟩ := bind_ok h
    obtain ⟨a, r3, h3, h⟩ := bind_ok h
    obtain ⟨l, r4, h4, h⟩ := bind_ok h
    obtain ⟨_, r5, h5, h⟩ := bind_ok h
    injection h with _ h; subst h
    exact z59 hs ((z1i h5).1.trans ((ih.arms _ _ _ _ h4).trans ((ih.arm _ _ _ _ h3).1.trans ((z1i h2).1.trans (z26 h1).1))))
   split at h
   ·rename_i hs
    injection h with h
    exact z59 hs (zh2 h)
   split at h
   ·rename_i hs
    injection h with h
    exact z59 hs (ziz h)
   split at h
   ·injection h with h
    exact zh3 h
   ·cases h
  ·simp only [sArm] at h
   obtain ⟨n, r1, h1, h⟩ := bind_ok h
   obtain ⟨_, r2, h2, h⟩ := bind_ok h
   obtain ⟨a, r3, h3, h⟩ := bind_ok h
   obtain ⟨_, r4, h4, h⟩ := bind_ok h
   obtain ⟨b, r5, h5, h⟩ := bind_ok h
   injection h with _ h; subst h
   have q := z26 h1
   exact zek ((ih.block _ _ _ _ h5).trans ((z1i h4).1.trans ((z26 h3).1.trans (z1i h2).1))) q.1 q.2
  ·simp only [zbe] at h
   split at h
   ·injection h with _ h; subst h; exact List.suffix_refl _
   ·obtain ⟨s, r1, h1, h⟩ := bind_ok h
    obtain ⟨l, r2, h2, h⟩ := bind_ok h
    injection h with _ h; subst h
    exact (ih.arms _ _ _ _ h2).trans (ih.arm _ _ _ _ h1).1
  ·simp only [z7f] at h
   split at h
   ·cases h
   ·obtain ⟨_, r1, h1, h⟩ := bind_ok h
    obtain ⟨b, r2, h2, h⟩ := bind_ok h
    obtain ⟨_, r3, h3, h⟩ := bind_ok h
    injection h with _ h; subst h
    exact (z1i h3).1.trans ((ih.stmts _ _ _ _ h2).trans (z1i h1).1)
structure FuS (L : Int) (f : Nat) : Prop where
 stmts : ∀ i ts, 3 * ts.length + 2 ≤ f → z7e L f i ts ≠ .out
 stmt : ∀ i ts, 3 * ts.length + 1 ≤ f → zbd L f i ts ≠ some .out
 arm : ∀ i ts, 3 * ts.length + 1 ≤ f → sArm L f i ts ≠ .out
 arms : ∀ i ts, 3 * ts.length + 2 ≤ f → zbe L f i ts ≠ .out
 block : ∀ i ts, 3 * ts.length + 1 ≤ f → z7f L f i ts ≠ .out
theorem fuS (L : Int) : ∀ f, FuS L f := by
 intro f
 induction f with
 | zero => exact ⟨fun i ts h => by omega, fun i ts h => by omega, fun i ts h => by omega, fun i ts h => by omega, fun i ts h => by omega⟩
 | succ f ih =>
  have sf := sufS L f
  refine ⟨fun i ts hf h => ?_, fun i ts hf h => ?_, fun i ts hf h => ?_, fun i ts hf h => ?_, fun i ts hf h => ?_⟩
  ·simp only [z7e] at h
   split at h
   ·cases h
   ·rename_i o ho
    rcases z0o h with h0 | ⟨s, r1, h1, h0⟩
    ·subst h0; exact ih.stmt _ _ (by omega) ho
    ·subst h1
     have := (sf.stmt _ _ _ _ ho).2
     rcases z0o h0 with h2 | ⟨l, r2, h2, h3⟩
     ·exact ih.stmts _ _ (by omega) h2
     ·cases h3
  ·simp only [zbd] at h
   split at h
   ·rename_i hs
    have := z35 hs
    injection h with h
    rcases z0o h with h | ⟨c, r1, h1, h⟩
    ·exact zej h
    have q1 := (z6s h1).1.length_le
    rcases z0o h with h | ⟨b, r2, h2, h⟩
    ·exact ih.block _ _ (by omega) h
    have q2 := (sf.block _ _ _ _ h2).length_le
    split at h
    ·rename_i he
     have := z35 he
     rcases z0o h with h | ⟨l, r3, h3, h⟩
     ·exact ih.block _ _ (by omega) h
     ·cases h
    ·cases h
   split at h
   ·rename_i hs
    have := z35 hs
    injection h with h
    rcases z0o h with h | ⟨c, r1, h1, h⟩
    ·exact zej h
    have q1 := (z6s h1).1.length_le
    rcases z0o h with h | ⟨b, r2, h2, h⟩
    ·exact ih.block _ _ (by omega) h
    ·cases h
   split at h
   ·injection h with h; exact zn0 h
   split at h
   ·rename_i hs
    have := z35 hs
    injection h with h
    rcases z0o h with h | ⟨n, r1, h1, h⟩
    ·exact z4p h
    have q1 := (z26 h1).2
    rcases z0o h with h | ⟨_, r2, h2, h⟩
    ·exact z39 h
    have q2 := (z1i h2).2
    rcases z0o h with h | ⟨a, r3, h3, h⟩
    ·exact ih.arm _ _ (by omega) h
    have q3 := (sf.arm _ _ _ _ h3).2
    rcases z0o h with h | ⟨l, r4, h4, h⟩
    ·exact ih.arms _ _ (by omega) h
    rcases z0o h with h | ⟨_, r5, h5, h⟩
    ·exact z39 h
    ·cases h
   split at h
   ·injection h with h; exact ziy h
   split at h
   ·injection h with h; exact zkk h
   split at h
   ·injection h with h; exact zj0 h
   ·cases h
  ·simp only [sArm] at h
   rcases z0o h with h | ⟨t, r1, h1, h⟩
   ·exact z4p h
   have q1 := (z26 h1).2
   rcases z0o h with h | ⟨_, r2, h2, h⟩
   ·exact z39 h
   have q2 := (z1i h2).2
   rcases z0o h with h | ⟨v, r3, h3, h⟩
   ·exact z4p h
   have q3 := (z26 h3).2
   rcases z0o h with h | ⟨_, r4, h4, h⟩
   ·exact z39 h
   have q4 := (z1i h4).2
   rcases z0o h with h | ⟨b, r5, h5, h⟩
   ·exact ih.block _ _ (by omega) h
   ·cases h
  ·simp only [zbe] at h
   split at h
   ·cases h
   ·rcases z0o h with h | ⟨a, r1, h1, h⟩
    ·exact ih.arm _ _ (by omega) h
    have q1 := (sf.arm _ _ _ _ h1).2
    rcases z0o h with h | ⟨l, r2, h2, h⟩
    ·exact ih.arms _ _ (by omega) h
    ·cases h
  ·simp only [z7f] at h
   split at h
   ·cases h
   ·rcases z0o h with h | ⟨_, r1, h1, h⟩
    ·exact z39 h
    have q1 := (z1i h1).2
    rcases z0o h with h | ⟨b, r2, h2, h⟩
    ·exact ih.stmts _ _ (by omega) h
    rcases z0o h with h | ⟨_, r3, h3, h⟩
    ·exact z39 h
    ·cases h
/-! ### The program's loops -/
abbrev S7 := List z07 × Int × Int × Int × Int × Int × List z04
abbrev A7 := List z07 × Int × Int × Int × Int × Int × List z27
def tpS (a : z00) (l : List z04) : S7 := (a.f_l, a.f_end, a.f_e, a.f_at, a.f_deep, a.f_in, l)
def tpA (a : z00) (l : List z27) : A7 := (a.f_l, a.f_end, a.f_e, a.f_at, a.f_deep, a.f_in, l)
noncomputable def SB (n : Nat) := z41 (z0n n) (z0f n) (z0k n) (z10 n) (z0x n) (z0b n) (z0s n)
noncomputable def RB (n : Nat) := z38 (z0n n) (z0f n) (z0k n) (z10 n) (z0x n) (z0b n) (z0s n)
noncomputable def SL (n : Nat) (a : z00) (l : List z04) : Option (z00 × List z04) := iter (SB n) (tpS a l) >>= Sum.elim (fun r => some r) (fun _ => none)
noncomputable def AL (n : Nat) (a : z00) (l : List z27) : Option (z00 × List z27) := iter (RB n) (tpA a l) >>= Sum.elim (fun _ => none) (fun j1 => some (⟨j1.1, j1.2.1, j1.2.2.1, j1.2.2.2.1, j1.2.2.2.2.1, j1.2.2.2.2.2.1⟩, j1.2.2.2.2.2.2))
theorem zos (n : Nat) (a : z00) (l : List z04) : SL n a l = z0f n a >>= fun v1 => if (!v1.2.2) then some (v1.1, l) else app 288 l [v1.2.1] >>= fun v2 => SL n v1.1 v2 := by
 have hb : SB n (tpS a l) = z0f n a >>= fun v1 => if (!v1.2.2) then some (.inr (.inl (v1.1, l))) else app 288 l [v1.2.1] >>= fun v2 => some (.inl (tpS v1.1 v2)) := rfl
 unfold SL
 rw [z8n, hb]
 simp only [Option.bind_eq_bind, Option.bind_assoc]
 congr 1; funext v1
 cases v1.2.2 with
 | false => rfl
 | true =>
  simp only [Bool.not_true, Bool.false_eq_true, if_false, Option.bind_assoc]
  congr 1
theorem AL_e {a : z00} (h : a.f_e ≠ 0) (n : Nat) (l : List z27) : AL n a l = some (a, l) := by
 unfold AL
 rw [z58 (r := .inr (tpA a l)) (by
  unfold RB z38
  rw [if_neg (by simpa [tpA] using h)]
  rfl)]
 rfl
theorem zpu {L d i : Int} {ts : List Tok} (n : Nat) (l : List z27) : AL n (PS L ts d i) l = if z2x (ByteArray.mk #[125]) ts then some (PS L ts d i, l) else z0s n (PS L ts d i) >>= fun v => app 56 l [v.2] >>= fun v2 => AL n v.1 v2 := by
 have hb : RB n (tpA (PS L ts d i) l) = if z2x (ByteArray.mk #[125]) ts then some (.inr (.inr (tpA (PS L ts d i) l))) else z0s n (PS L ts d i) >>= fun v => app 56 l [v.2] >>= fun v2 => some (.inl (tpA v.1 v2)) := by
  unfold RB z38
  rw [if_pos (by rfl)]
  show ((z1q (PS L ts d i) (ByteArray.mk #[125]) >>= fun v5 => some (!v5)) >>= _) = _
  rw [z8g]
  cases z2x (ByteArray.mk #[125]) ts <;> rfl
 unfold AL
 rw [z8n, hb]
 cases z2x (ByteArray.mk #[125]) ts with
 | true => rfl
 | false =>
  simp only [Option.bind_eq_bind, Option.bind_assoc, Bool.false_eq_true, if_false]
  congr 1
/-! ### Errors -/
section
variable {a : z00} (h : a.f_e ≠ 0)
include h
theorem zot (n : Nat) : Sn n 1 (z0f n a) (a, zSA, false) := by
 cases n with
 | zero => exact .inr ⟨rfl, by omega⟩
 | succ n =>
  refine .inl ?_
  simp only [z0f, z7v h, of_e h, Option.bind_eq_bind, Option.bind_some, Bool.false_eq_true, if_false]
  rfl
theorem SL_e (n : Nat) (l : List z04) : Sn n 1 (SL n a l) (a, l) := by
 rw [zos]
 exact Sn.bind (f := fun v1 => if (!v1.2.2) then some (v1.1, l) else app 288 l [v1.2.1] >>= fun v2 => SL n v1.1 v2) (zot h n) (.inl rfl)
theorem zel (n : Nat) : Sn n 2 (z0n n a) (a, []) := by
 cases n with
 | zero => exact .inr ⟨rfl, by omega⟩
 | succ n => exact (SL_e h n []).up
end
def bE (a : z00) : z00 := ⟨a.f_l, a.f_end, a.f_e, a.f_at, a.f_deep, IntKind.i64.wrap (IntKind.i64.wrap (a.f_in + 1) - 1)⟩
section
variable {a : z00} (h : a.f_e ≠ 0)
include h
theorem zca (n : Nat) : Sn n 3 (z0b n a) (bE a, []) := by
 cases n with
 | zero => exact .inr ⟨rfl, by omega⟩
 | succ n =>
  simp only [z0b, ziw h, Option.bind_eq_bind, Option.bind_some, Bool.false_eq_true, if_false, z6o h]
  refine (Sn.bind (f := fun v4 : z00 × List z04 => (z02 (z00.mk v4.1.f_l v4.1.f_end v4.1.f_e v4.1.f_at v4.1.f_deep (IntKind.i64.wrap (v4.1.f_in - 1))) (ByteArray.mk #[125])).bind fun v5 => some (v5, v4.2)) (zel (a := ⟨a.f_l, a.f_end, a.f_e, a.f_at, a.f_deep, IntKind.i64.wrap (a.f_in + 1)⟩) h n) (.inl ?_)).up
  show (z02 (bE a) (ByteArray.mk #[125])).bind _ = _
  rw [z6o (a := bE a) h]; rfl
theorem zpv (n : Nat) : Sn n 4 (z0s n a) (bE a, .mk nB nB []) := by
 cases n with
 | zero => exact .inr ⟨rfl, by omega⟩
 | succ n =>
  simp only [z0s, zbq h, z6o h, Option.bind_eq_bind, Option.bind_some]
  exact (Sn.bind (f := fun v5 : z00 × List z04 => some (v5.1, z27.mk (ByteArray.mk #[]) (ByteArray.mk #[]) v5.2)) (zca h n) (.inl rfl)).up
end
/-! ### The program's statements -/
def TS (L i : Int) (H : Nat) (x : Nat → Option (z00 × z04 × Bool)) (ts : List Tok) : Option (Rs z1r) → Prop
 | none => ∀ n, Sn n H (x n) (PS L ts 0 i, zSA, false)
 | some o => TP L 0 i Prod.fst (fun v a => (a, cS v, true)) H x o
structure PT (L : Int) (f : Nat) : Prop where
 stmts : ∀ (i : Nat) ts acc, i ≤ 24 → ts.length ≤ 2000 → acc.length + ts.length ≤ 2000 → TP L 0 i Prod.fst (fun v a => (a, acc ++ cL v)) (2 * f + 6) (fun n => SL n (PS L ts 0 i) acc) (z7e L f i ts)
 stmt : ∀ (i : Nat) ts, i ≤ 24 → ts.length ≤ 2000 → TS L i (2 * f + 6) (fun n => z0f n (PS L ts 0 i)) ts (zbd L f i ts)
 arm : ∀ (i : Nat) ts, i ≤ 24 → ts.length ≤ 2000 → TP L 0 i Prod.fst (fun v a => (a, cArm v)) (2 * f + 6) (fun n => z0s n (PS L ts 0 i)) (sArm L f i ts)
 arms : ∀ (i : Nat) ts acc, i ≤ 24 → ts.length ≤ 2000 → acc.length + ts.length ≤ 2000 → TP L 0 i Prod.fst (fun v a => (a, acc ++ cA v)) (2 * f + 6) (fun n => AL n (PS L ts 0 i) acc) (zbe L f i ts)
 block : ∀ (i : Nat) ts, i ≤ 24 → ts.length ≤ 2000 → TP L 0 i Prod.fst (fun v a => (a, cL v)) (2 * f + 6) (fun n => z0b n (PS L ts 0 i)) (z7f L f i ts)
theorem TP.map {ρ β γ : Type} {L d i : Int} {π : ρ → z00} {mk : β → z00 → ρ} {mk' : γ → z00 → ρ} {H : Nat} {x : Nat → Option ρ} {o : Rs β} {g : β → γ}
  (h : TP L d i π mk H x o) (e : ∀ v a, mk v a = mk' (g v) a) : TP L d i π mk' H x (o.bind fun v r => .ok (g v) r) := by
 intro hne
 cases o with
 | ok v ts =>
  obtain ⟨r, hr, hs⟩ := h (by simp)
  exact ⟨r, Eq.trans hr (e v _), hs⟩
 | er c p => exact h (by simp)
 | out => exact absurd rfl hne
theorem zlj (x : z5n) (l : List z5n) : cA (x :: l) = cArm x :: cA l := by cases x; rfl
abbrev mkL : List z1r → z00 → z00 × List z04 := fun v a => (a, cL v)
abbrev mkT : z1r → z00 → z00 × z04 × Bool := fun v a => (a, cS v, true)
theorem zb1 {L i : Int} {H : Nat} {x : Nat → Option (z00 × z04)} {o : Rs z1r} (h : TP L 0 i Prod.fst mkS H x o) : TP L 0 i Prod.fst mkT H (fun n => x n >>= fun v => some (v.1, v.2, true)) o := by
 intro hne
 obtain ⟨r, g, s⟩ := h hne
 refine ⟨(r.1, r.2, true), ?_, fun n => Sn.bind (f := fun v => some (v.1, v.2, true)) (s n) (.inl rfl)⟩
 cases o with
 | ok v ts => have g : r = mkS v (PS L ts 0 i) := g; subst g; rfl
 | er c p => exact g
 | out => exact absurd rfl hne
theorem pt (L : Int) : ∀ f, PT L f := by
 intro f
 induction f with
 | zero => exact ⟨fun i ts acc _ _ _ => by simp only [z7e]; exact z7x, fun i ts _ _ => by simp only [zbd]; exact z7x, fun i ts _ _ => by simp only [sArm]; exact z7x, fun i ts acc _ _ _ => by simp only [zbe]; exact z7x, fun i ts _ _ => by simp only [z7f]; exact z7x⟩
 | succ f ih =>
  have sf := sufS L f
  refine ⟨fun i ts acc hi hl ha => ?_, fun i ts hi hl => ?_, fun i ts hi hl => ?_, fun i ts acc hi hl ha => ?_, fun i ts hi hl => ?_⟩
  ·-- statements
   simp only [z7e]
   have h1 := ih.stmt i ts hi hl
   refine TP.eq (y := fun n => z0f n (PS L ts 0 i) >>= fun v1 => if (!v1.2.2) then some (v1.1, acc) else app 288 acc [v1.2.1] >>= fun v2 => SL n v1.1 v2) ?_ (fun n => zos n _ _)
   cases hs : zbd L f i ts with
   | none =>
    rw [hs] at h1
    have h1 : ∀ n, Sn n (2 * f + 6) (z0f n (PS L ts 0 i)) (PS L ts 0 i, zSA, false) := h1
    refine fun _ => ⟨(PS L ts 0 i, acc), by simp [GP, cL], fun n => ((h1 n).mono (show 2 * f + 6 ≤ 2 * (f + 1) + 6 by omega)).bind (f := fun v1 => if (!v1.2.2) then some (v1.1, acc) else app 288 acc [v1.2.1] >>= fun v2 => SL n v1.1 v2) (.inl rfl)⟩
   | some o =>
    rw [hs] at h1
    have h1 : TP L 0 i Prod.fst mkT (2 * f + 6) (fun n => z0f n (PS L ts 0 i)) o := h1
    refine TP.mono (H := 2 * f + 6) ?_ (by omega)
    refine TP.bind (π' := Prod.fst) (mk' := fun v a => (a, acc ++ cL v)) h1 (fun s r ho => ?_) (fun r c p hc he => ?_)
    ·subst ho
     have q := sf.stmt _ _ _ _ hs
     have ql := z2g q.1 hl
     refine TP.eq (y := fun n => SL n (PS L r 0 i) (acc ++ [cS s])) ?_ (fun n => ?_)
     ·refine TP.map (g := fun l => s :: l) (ih.stmts i r (acc ++ [cS s]) hi ql (by simp; omega)) (fun v a => ?_)
      simp [cL]
     ·show (if (!true) then _ else (app 288 acc [cS s]).bind _) = _
      rw [z6t (by simp; omega)]; rfl
    ·have hq : r.1.f_e ≠ 0 := z2k hc he
     cases hb : r.2.2 with
     | false => exact ⟨(r.1, acc), he, fun n => .inl rfl⟩
     | true =>
      refine ⟨(r.1, acc ++ [r.2.1]), he, fun n => ?_⟩
      show Sn n _ (app 288 acc [r.2.1] >>= fun v2 => SL n r.1 v2) _
      rw [z6t (by simp; omega)]
      exact (SL_e hq n _).mono (by omega)
  ·-- a statement
   simp only [zbd]
   cases h1 : z2x (ByteArray.mk #[105, 102]) ts with
   | true =>
    have l0 : ts.tail.length ≤ 2000 := by have := z35 h1; omega
    simp only [if_true]
    refine TP.up (H := 2 * f + 7) (x := fun n => z0k n (PS L ts.tail 0 i) >>= fun v => some (v.1, v.2, true)) rfl (fun n => by simp only [z0f, z4z hl, h1, Option.bind_eq_bind, Option.bind_some, if_true]) ?_
    refine zb1 ?_
    refine TP.up (H := 2 * f + 6) (x := fun n => z2r (PS L ts.tail 0 i) >>= fun v1 => z0b n v1.1 >>= fun v2 => z09 v2.1 (ByteArray.mk #[101, 108, 115, 101]) >>= fun v3 => if v3.2 then (z0b n v3.1 >>= fun v4 => some (v4.1, (z04.mk 2 nB nB zA v1.2 v2.2 v4.2 []))) else (some (v3.1, (z04.mk 2 nB nB zA v1.2 v2.2 [] [])))) rfl (fun n => rfl) ?_
    refine TP.bind (π' := Prod.fst) (mk' := mkS) (zj1 l0) (fun c r1 h2 => ?_) (fun r c p hc he => ⟨(bE r.1, .mk 2 nB nB zA r.2 [] [] []), he, fun n => ((zca (z2k hc he) n).mono (by omega)).bind (f := fun v2 => z09 v2.1 (ByteArray.mk #[101, 108, 115, 101]) >>= fun v3 => if v3.2 then (z0b n v3.1 >>= fun v4 => some (v4.1, (z04.mk 2 nB nB zA r.2 v2.2 v4.2 []))) else (some (v3.1, (z04.mk 2 nB nB zA r.2 v2.2 [] [])))) (.inl (by rw [z7v (a := bE r.1) (z2k hc he)]; rfl))⟩)
    have l1 := z2g (z6s h2).1 l0
    refine TP.bind (π' := Prod.fst) (mk' := mkS) (ih.block i r1 hi l1) (fun b r2 h3 => ?_) (fun r cc p hc he => ⟨(r.1, .mk 2 nB nB zA (cC c) r.2 [] []), he, fun n => .inl (by rw [z7v (a := r.1) (z2k hc he)]; rfl)⟩)
    have l2 := z2g (sf.block _ _ _ _ h3) l1
    cases h4 : z2x (ByteArray.mk #[101, 108, 115, 101]) r2 with
    | true =>
     have l3 : r2.tail.length ≤ 2000 := by have := z35 h4; omega
     simp only [if_true]
     refine TP.eq (y := fun n => z0b n (PS L r2.tail 0 i) >>= fun v4 => some (v4.1, (z04.mk 2 nB nB zA (cC c) (cL b) v4.2 []))) ?_ (fun n => by simp only [z4z l2, h4, Option.bind_eq_bind, Option.bind_some, if_true])
     refine TP.bind (π' := Prod.fst) (mk' := mkS) (ih.block i r2.tail hi l3) (fun l r3 h5 => TP.pure (fun n => ?_)) (fun r cc p hc he => ⟨(r.1, .mk 2 nB nB zA (cC c) (cL b) r.2 []), he, fun n => .inl rfl⟩)
     simp only [mkS, cS, cZ, cA]
    | false =>
     simp only [Bool.false_eq_true, if_false]
     refine TP.pure (fun n => ?_)
     simp only [z4z l2, h4, Option.bind_eq_bind, Option.bind_some, Bool.false_eq_true, if_false, mkS, cS, cZ, cA, cL]
   | false =>
   simp only [Bool.false_eq_true, if_false]
   cases h2 : z2x (ByteArray.mk #[119, 104, 105, 108, 101]) ts with
   | true =>
    have l0 : ts.tail.length ≤ 2000 := by have := z35 h2; omega
    simp only [if_true]
    refine TP.up (H := 2 * f + 7) (x := fun n => z10 n (PS L ts.tail 0 i) >>= fun v => some (v.1, v.2, true)) rfl (fun n => by simp only [z0f, z4z hl, h1, h2, Option.bind_eq_bind, Option.bind_some, if_true, Bool.false_eq_true, if_false]) ?_
    refine zb1 ?_
    refine TP.up (H := 2 * f + 6) (x := fun n => z2r (PS L ts.tail 0 i) >>= fun v1 => z0b n v1.1 >>= fun v2 => some (v2.1, (z04.mk 3 nB nB zA v1.2 v2.2 [] []))) rfl (fun n => rfl) ?_
    refine TP.bind (π' := Prod.fst) (mk' := mkS) (zj1 l0) (fun c r1 h2 => ?_) (fun r c p hc he => ⟨(bE r.1, .mk 3 nB nB zA r.2 [] [] []), he, fun n => ((zca (z2k hc he) n).mono (by omega)).bind (f := fun v2 => some (v2.1, (z04.mk 3 nB nB zA r.2 v2.2 [] []))) (.inl rfl)⟩)
    have l1 := z2g (z6s h2).1 l0
    refine TP.bind (π' := Prod.fst) (mk' := mkS) (ih.block i r1 hi l1) (fun b r2 h3 => TP.pure (fun n => ?_)) (fun r cc p hc he => ⟨(r.1, .mk 3 nB nB zA (cC c) r.2 [] []), he, fun n => .inl rfl⟩)
    simp only [mkS, cS, cZ, cA, cL]
   | false =>
   simp only [Bool.false_eq_true, if_false]
   cases h3 : z2x (ByteArray.mk #[115, 101, 110, 100]) ts with
   | true =>
    have l0 : ts.tail.length ≤ 2000 := by have := z35 h3; omega
    simp only [if_true]
    refine TP.mono (H := 1) ?_ (by omega)
    refine TP.up (H := 0) (x := fun n => z3s (PS L ts.tail 0 i) >>= fun v => some (v.1, v.2, true)) rfl (fun n => by simp only [z0f, z4z hl, h1, h2, h3, Option.bind_eq_bind, Option.bind_some, if_true, Bool.false_eq_true, if_false]) ?_
    exact zb1 (zor l0)
   | false =>
   simp only [Bool.false_eq_true, if_false]
   cases h4 : z2x (ByteArray.mk #[114, 101, 99, 118]) ts with
   | true =>
    have l0 : ts.tail.length ≤ 2000 := by have := z35 h4; omega
    simp only [if_true]
    refine TP.up (H := 2 * f + 7) (x := fun n => z0x n (PS L ts.tail 0 i) >>= fun v => some (v.1, v.2, true)) rfl (fun n => by simp only [z0f, z4z hl, h1, h2, h3, h4, Option.bind_eq_bind, Option.bind_some, if_true, Bool.false_eq_true, if_false]) ?_
    refine zb1 ?_
    refine TP.up (H := 2 * f + 6) (x := fun n => z08 (PS L ts.tail 0 i) >>= fun v1 => z02 v1.1 (ByteArray.mk #[123]) >>= fun v2 => z0s n v2 >>= fun v3 => app 56 [] [v3.2] >>= fun v4 => AL n v3.1 v4 >>= fun w => z02 w.1 (ByteArray.mk #[125]) >>= fun v8 => some (v8, (z04.mk 5 v1.2 nB zA zCA [] [] w.2))) rfl (fun n => by
     simp only [z0x, Option.bind_eq_bind]
     congr 1; funext v1
     congr 1; funext v2
     congr 1; funext v3
     congr 1; funext v4
     unfold AL
     rw [Option.bind_eq_bind, Option.bind_assoc]
     show (iter (RB n) (tpA v3.1 v4)).bind _ = (iter (RB n) (tpA v3.1 v4)).bind _
     congr 1; funext o
     cases o <;> rfl) ?_
    have er : ∀ (a : z00) (m : ByteArray), a.f_e ≠ 0 → ∀ n, Sn n (2 * f + 6) (z0s n a >>= fun v3 => app 56 [] [v3.2] >>= fun v4 => AL n v3.1 v4 >>= fun w => z02 w.1 (ByteArray.mk #[125]) >>= fun v8 => some (v8, (z04.mk 5 m nB zA zCA [] [] w.2))) (bE a, .mk 5 m nB zA zCA [] [] [.mk nB nB []]) := fun a m h n => by
     refine ((zpv h n).mono (show 4 ≤ 2 * f + 6 by omega)).bind (f := fun v3 => app 56 [] [v3.2] >>= fun v4 => AL n v3.1 v4 >>= fun w => z02 w.1 (ByteArray.mk #[125]) >>= fun v8 => some (v8, (z04.mk 5 m nB zA zCA [] [] w.2))) (.inl ?_)
     rw [z6t (by simp)]
     show (AL n (bE a) _).bind _ = _
     rw [AL_e (a := bE a) h]
     show (z02 (bE a) _).bind _ = _
     rw [z6o (a := bE a) h]; rfl
    refine TP.bind (π' := Prod.fst) (mk' := mkS) (z64 l0) (fun m r1 q1 => ?_) (fun r c p hc he => ⟨(bE r.1, .mk 5 r.2 nB zA zCA [] [] [.mk nB nB []]), he, fun n => by rw [z6o (z2k hc he)]; exact er r.1 r.2 (z2k hc he) n⟩)
    have l1 := z2g (z26 q1).1 l0
    refine TP.bind (π' := Prod.fst) (mk' := mkS) (z44 l1 _) (fun _ r2 q2 => ?_) (fun r c p hc he => ⟨(bE r, .mk 5 m nB zA zCA [] [] [.mk nB nB []]), he, fun n => er r m (z2k hc he) n⟩)
    have l2 := z2g (z1i q2).1 l1
    refine TP.bind (π' := Prod.fst) (mk' := mkS) (ih.arm i r2 hi l2) (fun x r3 q3 => ?_) (fun r c p hc he => ⟨(r.1, .mk 5 m nB zA zCA [] [] [r.2]), he, fun n => .inl (by
     rw [z6t (by simp)]
     show (AL n r.1 _).bind _ = _
     rw [AL_e (z2k hc he)]
     show (z02 r.1 _).bind _ = _
     rw [z6o (z2k hc he)]; rfl)⟩)
    have z3 := sf.arm _ _ _ _ q3
    have l3 := z2g z3.1 l2
    refine TP.eq (y := fun n => AL n (PS L r3 0 i) [cArm x] >>= fun w => z02 w.1 (ByteArray.mk #[125]) >>= fun v8 => some (v8, (z04.mk 5 m nB zA zCA [] [] w.2))) ?_ (fun n => by rw [z6t (by simp)]; rfl)
    refine TP.bind (π' := Prod.fst) (mk' := mkS) (ih.arms i r3 [cArm x] hi l3 (by simp; omega)) (fun l r4 q4 => ?_) (fun r c p hc he => ⟨(r.1, .mk 5 m nB zA zCA [] [] r.2), he, fun n => .inl (by rw [z6o (z2k hc he)]; rfl)⟩)
    have l4 := z2g (sf.arms _ _ _ _ q4) l3
    refine TP.bind (π' := Prod.fst) (mk' := mkS) (z44 l4 _) (fun _ r5 q5 => TP.pure (fun n => ?_)) (fun r c p hc he => ⟨(r, .mk 5 m nB zA zCA [] [] ([cArm x] ++ cA l)), he, fun n => .inl rfl⟩)
    simp only [mkS, cS, cZ, cZC, cL, zlj, List.singleton_append]
   | false =>
   simp only [Bool.false_eq_true, if_false]
   cases h5 : z2x (ByteArray.mk #[97, 115, 115, 101, 114, 116]) ts with
   | true =>
    have l0 : ts.tail.length ≤ 2000 := by have := z35 h5; omega
    simp only [if_true]
    refine TP.mono (H := 1) ?_ (by omega)
    refine TP.up (H := 0) (x := fun n => z3b (PS L ts.tail 0 i) >>= fun v => some (v.1, v.2, true)) rfl (fun n => by simp only [z0f, z4z hl, h1, h2, h3, h4, h5, Option.bind_eq_bind, Option.bind_some, if_true, Bool.false_eq_true, if_false]) ?_
    exact zb1 (zkm l0)
   | false =>
   simp only [Bool.false_eq_true, if_false]
   cases h6 : z2x (ByteArray.mk #[105, 110, 112, 117, 116]) ts with
   | true =>
    have l0 : ts.tail.length ≤ 2000 := by have := z35 h6; omega
    simp only [if_true]
    refine TP.mono (H := 1) ?_ (by omega)
    refine TP.up (H := 0) (x := fun n => z3l (PS L ts.tail 0 i) >>= fun v => some (v.1, v.2, true)) rfl (fun n => by simp only [z0f, z4z hl, h1, h2, h3, h4, h5, h6, Option.bind_eq_bind, Option.bind_some, if_true, Bool.false_eq_true, if_false]) ?_
    exact zb1 (zn1 l0)
   | false =>
   simp only [Bool.false_eq_true, if_false]
   cases h7 : sOf 1 ts with
   | true =>
    simp only [if_true]
    refine TP.mono (H := 1) ?_ (by omega)
    refine TP.up (H := 0) (x := fun n => z3c (PS L ts 0 i) >>= fun v => some (v.1, v.2, true)) rfl (fun n => by simp only [z0f, z4z hl, of_P, h1, h2, h3, h4, h5, h6, h7, Option.bind_eq_bind, Option.bind_some, if_true, Bool.false_eq_true, if_false]) ?_
    exact zb1 (zkn hl)
   | false =>
    simp only [Bool.false_eq_true, if_false]
    intro n
    cases n with
    | zero => exact .inr ⟨rfl, by omega⟩
    | succ n =>
     refine .inl ?_
     simp only [z0f, z4z hl, of_P, h1, h2, h3, h4, h5, h6, h7, Option.bind_eq_bind, Option.bind_some, Bool.false_eq_true, if_false]
     rfl
  ·-- an arm
   simp only [sArm]
   refine TP.mono (H := 2 * f + 7) ?_ (by omega)
   refine TP.up (H := 2 * f + 6) (x := fun n => z08 (PS L ts 0 i) >>= fun v1 => z02 v1.1 (ByteArray.mk #[40]) >>= fun v2 => z08 v2 >>= fun v3 => z02 v3.1 (ByteArray.mk #[41]) >>= fun v4 => z0b n v4 >>= fun v5 => some (v5.1, (z27.mk v1.2 v3.2 v5.2))) rfl (fun n => rfl) ?_
   have er : ∀ (a : z00) (s t : ByteArray), a.f_e ≠ 0 → ∀ n, Sn n (2 * f + 6) (z0b n a >>= fun v5 => some (v5.1, (z27.mk s t v5.2))) (bE a, .mk s t []) := fun a s t h n => ((zca h n).mono (by omega)).bind (f := fun v5 => some (v5.1, (z27.mk s t v5.2))) (.inl rfl)
   refine TP.bind (π' := Prod.fst) (mk' := fun v a => (a, cArm v)) (z64 hl) (fun t r1 q1 => ?_) (fun r c p hc he => ⟨(bE r.1, .mk r.2 nB []), he, fun n => by
    have h := z2k hc he
    simp only [z6o h, zbq h, Option.bind_eq_bind, Option.bind_some]
    exact er r.1 r.2 nB h n⟩)
   have l1 := z2g (z26 q1).1 hl
   refine TP.bind (π' := Prod.fst) (mk' := fun v a => (a, cArm v)) (z44 l1 _) (fun _ r2 q2 => ?_) (fun r c p hc he => ⟨(bE r, .mk t nB []), he, fun n => by
    have h : r.f_e ≠ 0 := z2k hc he
    simp only [z6o h, zbq h, Option.bind_eq_bind, Option.bind_some]
    exact er r t nB h n⟩)
   have l2 := z2g (z1i q2).1 l1
   refine TP.bind (π' := Prod.fst) (mk' := fun v a => (a, cArm v)) (z64 l2) (fun w r3 q3 => ?_) (fun r c p hc he => ⟨(bE r.1, .mk t r.2 []), he, fun n => by
    have h := z2k hc he
    simp only [z6o h, Option.bind_eq_bind, Option.bind_some]
    exact er r.1 t r.2 h n⟩)
   have l3 := z2g (z26 q3).1 l2
   refine TP.bind (π' := Prod.fst) (mk' := fun v a => (a, cArm v)) (z44 l3 _) (fun _ r4 q4 => ?_) (fun r c p hc he => ⟨(bE r, .mk t w []), he, fun n => er r t w (z2k hc he) n⟩)
   have l4 := z2g (z1i q4).1 l3
   refine TP.bind (π' := Prod.fst) (mk' := fun v a => (a, cArm v)) (ih.block i r4 hi l4) (fun b r5 q5 => TP.pure (fun n => rfl)) (fun r c p hc he => ⟨(r.1, .mk t w r.2), he, fun n => .inl rfl⟩)
  ·-- arms
   simp only [zbe]
   refine TP.eq (y := fun n => if z2x (ByteArray.mk #[125]) ts then some (PS L ts 0 i, acc) else z0s n (PS L ts 0 i) >>= fun v => app 56 acc [v.2] >>= fun v2 => AL n v.1 v2) ?_ (fun n => zpu n acc)
   cases h1 : z2x (ByteArray.mk #[125]) ts with
   | true =>
    simp only [if_true]
    exact TP.pure (fun n => by simp [cA])
   | false =>
    simp only [Bool.false_eq_true, if_false]
    refine TP.mono (H := 2 * f + 6) ?_ (by omega)
    refine TP.bind (π' := Prod.fst) (mk' := fun v a => (a, acc ++ cA v)) (ih.arm i ts hi hl) (fun x r ho => ?_) (fun r c p hc he => ⟨(r.1, acc ++ [r.2]), he, fun n => .inl (by
     rw [z6t (by simp; omega)]
     exact AL_e (z2k hc he) n _)⟩)
    have q := sf.arm _ _ _ _ ho
    have ql := z2g q.1 hl
    refine TP.eq (y := fun n => AL n (PS L r 0 i) (acc ++ [cArm x])) ?_ (fun n => ?_)
    ·refine TP.map (g := fun l => x :: l) (ih.arms i r (acc ++ [cArm x]) hi ql (by simp; omega)) (fun v a => ?_)
     simp [zlj]
    ·show (app 56 acc [cArm x]).bind _ = _
     rw [z6t (by simp; omega)]; rfl
  ·-- a block
   simp only [z7f]
   cases h1 : (z2x (ByteArray.mk #[123]) ts && decide (i = 24)) with
   | true =>
    simp only [Bool.and_eq_true, decide_eq_true_eq] at h1
    simp only [if_true]
    obtain ⟨h1, h2⟩ := h1
    subst h2
    refine TP.mono (H := 1) ?_ (by omega)
    refine TP.up (H := 0) (x := fun n => some (⟨ts.map tokT, L, 6, sAt L ts, 0, 24⟩, [])) rfl (fun n => by
     simp only [z0b, z8g, h1, Option.bind_eq_bind, Option.bind_some, if_true, zaz]
     rfl) ?_
    exact TP.err (fun n => rfl) (by decide) ⟨rfl, rfl⟩
   | false =>
    simp only [Bool.false_eq_true, if_false]
    have hj : (if z2x (ByteArray.mk #[123]) ts then some ((PS L ts 0 i).f_in == 24) else some false) = some false := by
     cases hs : z2x (ByteArray.mk #[123]) ts with
     | false => rfl
     | true =>
      rw [hs] at h1
      have h1 : decide (i = 24) = false := h1
      have : ((i : Int) == 24) = false := by simp at h1 ⊢; omega
      show some ((i : Int) == 24) = _
      rw [this]
    refine TP.mono (H := 2 * f + 8) ?_ (by omega)
    refine TP.up (H := 2 * f + 7) (x := fun n => z02 (PS L ts 0 i) (ByteArray.mk #[123]) >>= fun v3 => z0n n (z00.mk v3.f_l v3.f_end v3.f_e v3.f_at v3.f_deep (IntKind.i64.wrap (v3.f_in + 1))) >>= fun v4 => z02 (z00.mk v4.1.f_l v4.1.f_end v4.1.f_e v4.1.f_at v4.1.f_deep (IntKind.i64.wrap (v4.1.f_in - 1))) (ByteArray.mk #[125]) >>= fun v5 => some (v5, v4.2)) rfl (fun n => by
     simp only [z0b, z8g, Option.bind_eq_bind, Option.bind_some, hj, Bool.false_eq_true, if_false]) ?_
    refine TP.bind (π' := Prod.fst) (mk' := mkL) (z44 hl _) (fun _ r1 q1 => ?_) (fun r c p hc he => ⟨(bE r, []), he, fun n => by
     have h : r.f_e ≠ 0 := z2k hc he
     refine ((zel (a := ⟨r.f_l, r.f_end, r.f_e, r.f_at, r.f_deep, IntKind.i64.wrap (r.f_in + 1)⟩) h n).mono (by omega)).bind (f := fun v4 : z00 × List z04 => z02 (z00.mk v4.1.f_l v4.1.f_end v4.1.f_e v4.1.f_at v4.1.f_deep (IntKind.i64.wrap (v4.1.f_in - 1))) (ByteArray.mk #[125]) >>= fun v5 => some (v5, v4.2)) (.inl ?_)
     show (z02 (bE r) (ByteArray.mk #[125])).bind _ = _
     rw [z6o (a := bE r) h]; rfl⟩)
    have l1 := z2g (z1i q1).1 hl
    have hi' : i + 1 ≤ 24 := by
     have hs : z2x (ByteArray.mk #[123]) ts = true := by
      unfold z4o at q1
      split at q1
      ·assumption
      ·cases q1
     rw [hs] at h1
     have h1 : decide (i = 24) = false := h1
     simp at h1; omega
    have w1 : IntKind.i64.wrap ((PS L r1 0 i).f_in + 1) = ((i + 1 : Nat) : Int) := by
     show IntKind.i64.wrap ((i : Int) + 1) = _
     rw [w64 (by omega) (by omega)]; omega
    have hsl : TP L 0 ((i + 1 : Nat) : Int) Prod.fst mkL (2 * f + 7) (fun n => z0n n (PS L r1 0 ((i + 1 : Nat) : Int))) (z7e L f (i + 1) r1) := TP.up (x := fun n => SL n (PS L r1 0 ((i + 1 : Nat) : Int)) []) rfl (fun n => rfl) (by
     have := ih.stmts (i + 1) r1 [] hi' l1 (by simpa using l1)
     simpa using this)
    refine TP.eq (y := fun n => z0n n (PS L r1 0 ((i + 1 : Nat) : Int)) >>= fun v4 => z02 (z00.mk v4.1.f_l v4.1.f_end v4.1.f_e v4.1.f_at v4.1.f_deep (IntKind.i64.wrap (v4.1.f_in - 1))) (ByteArray.mk #[125]) >>= fun v5 => some (v5, v4.2)) ?_ (fun n => by
     show z0n n ⟨r1.map tokT, L, 0, 0, 0, IntKind.i64.wrap ((PS L r1 0 i).f_in + 1)⟩ >>= _ = _
     rw [w1]; rfl)
    refine TP.bind (π' := Prod.fst) (mk' := mkL) hsl (fun b r2 q2 => ?_) (fun r c p hc he => ⟨(⟨r.1.f_l, r.1.f_end, r.1.f_e, r.1.f_at, r.1.f_deep, IntKind.i64.wrap (r.1.f_in - 1)⟩, r.2), he, fun n => .inl (by
     rw [z6o (a := ⟨r.1.f_l, r.1.f_end, r.1.f_e, r.1.f_at, r.1.f_deep, IntKind.i64.wrap (r.1.f_in - 1)⟩) (z2k hc he)]; rfl)⟩)
    have l2 := z2g (sf.stmts _ _ _ _ q2) l1
    have w2 : IntKind.i64.wrap ((PS L r2 0 ((i + 1 : Nat) : Int)).f_in - 1) = (i : Int) := by
     show IntKind.i64.wrap (((i + 1 : Nat) : Int) - 1) = _
     rw [w64 (by omega) (by omega)]; omega
    refine TP.eq (y := fun n => z02 (PS L r2 0 i) (ByteArray.mk #[125]) >>= fun v5 => some (v5, cL b)) ?_ (fun n => by
     show z02 ⟨r2.map tokT, L, 0, 0, 0, IntKind.i64.wrap ((PS L r2 0 ((i + 1 : Nat) : Int)).f_in - 1)⟩ _ >>= _ = _
     rw [w2]; rfl)
    exact TP.bind (π' := Prod.fst) (mk' := mkL) (z44 l2 _) (fun _ r3 q3 => TP.pure (fun n => rfl)) (fun r c p hc he => ⟨(r, cL b), he, fun n => .inl rfl⟩)
end Go.Proofs.YtokjbpmjdcbogaaDoor.Abs.Par
/- The program's reader reads channels, rules, processes and whole systems as parsing does. -/
namespace Go.Proofs.YtokjbpmjdcbogaaDoor.Abs.Par
open Go Go.RowKit Wri
set_option linter.unusedVariables false
set_option linter.unusedSimpArgs false
/-! ### Many of a kind -/
def z7c {α : Type} (more : List Tok → Option (Rs α)) : Nat → List Tok → Rs (List α)
 | 0, _ => .out
 | f + 1, ts => match more ts with
  | none => .ok [] ts
  | some o => o.bind fun v r => (z7c more f r).bind fun l r' => .ok (v :: l) r'
structure More {α : Type} (more : List Tok → Option (Rs α)) : Prop where
 suf : ∀ ts v r, more ts = some (.ok v r) → r <:+ ts ∧ r.length < ts.length
 ne : ∀ ts, more ts ≠ some .out
theorem z6u {α : Type} {more : List Tok → Option (Rs α)} (m : More more) : ∀ f ts v r, z7c more f ts = .ok v r → r <:+ ts := by
 intro f
 induction f with
 | zero => intro ts v r h; cases h
 | succ f ih =>
  intro ts v r h
  simp only [z7c] at h
  split at h
  ·injection h with _ h; subst h; exact List.suffix_refl _
  ·rename_i o ho
   obtain ⟨s, r1, h1, h0⟩ := bind_ok h
   obtain ⟨l, r2, h2, h3⟩ := bind_ok h0
   injection h3 with _ h3; subst h3; subst h1
   exact (ih _ _ _ h2).trans (m.suf _ _ _ ho).1
theorem z9y {α : Type} {more : List Tok → Option (Rs α)} (m : More more) : ∀ f ts, ts.length + 1 ≤ f → z7c more f ts ≠ .out := by
 intro f
 induction f with
 | zero => intro ts h; omega
 | succ f ih =>
  intro ts hf h
  simp only [z7c] at h
  split at h
  ·cases h
  ·rename_i o ho
   rcases z0o h with h0 | ⟨s, r1, h1, h0⟩
   ·subst h0; exact m.ne _ ho
   ·subst h1
    have := (m.suf _ _ _ ho).2
    rcases z0o h0 with h2 | ⟨l, r2, h2, h3⟩
    ·exact ih _ (by omega) h2
    ·cases h3
abbrev T7 (β : Type) := List z07 × Int × Int × Int × Int × Int × List β
def tp7 {β : Type} (a : z00) (l : List β) : T7 β := (a.f_l, a.f_end, a.f_e, a.f_at, a.f_deep, a.f_in, l)
noncomputable def LF {β O : Type} (body : T7 β → Option (Sum (T7 β) (Sum O (T7 β)))) (a : z00) (l : List β) : Option (z00 × List β) :=
 iter body (tp7 a l) >>= Sum.elim (fun _ => none) (fun j1 => some (⟨j1.1, j1.2.1, j1.2.2.1, j1.2.2.2.1, j1.2.2.2.2.1, j1.2.2.2.2.2.1⟩, j1.2.2.2.2.2.2))
section
variable {β O : Type} {body : T7 β → Option (Sum (T7 β) (Sum O (T7 β)))} {a : z00} {l : List β}
theorem za4 (h : body (tp7 a l) = some (.inr (.inr (tp7 a l)))) : LF body a l = some (a, l) := by unfold LF; rw [z58 h]; rfl
theorem zn2 {x : Option (z00 × List β)} (h : body (tp7 a l) = x >>= fun v => some (.inl (tp7 v.1 v.2))) : LF body a l = x >>= fun v => LF body v.1 v.2 := by
 unfold LF
 rw [z8n, h]
 simp only [Option.bind_eq_bind, Option.bind_assoc]
 congr 1
theorem zft {ρ : Type} (k : z00 × List β → Option ρ) : iter body (tp7 a l) >>= Sum.elim (fun _ => none) (fun j1 => k (⟨j1.1, j1.2.1, j1.2.2.1, j1.2.2.2.1, j1.2.2.2.2.1, j1.2.2.2.2.2.1⟩, j1.2.2.2.2.2.2)) = LF body a l >>= k := by
 unfold LF
 simp only [Option.bind_eq_bind, Option.bind_assoc]
 congr 1; funext o
 cases o <;> rfl
end
theorem zbr {β γ O : Type} {L d i : Int} {body : T7 β → Option (Sum (T7 β) (Sum O (T7 β)))} {more : List Tok → Option (Rs γ)} {cv : γ → β} (m : More more)
  (h0 : ∀ ts l, ts.length ≤ 2000 → more ts = none → body (tp7 (PS L ts d i) l) = some (.inr (.inr (tp7 (PS L ts d i) l))))
  (h1 : ∀ ts o, ts.length ≤ 2000 → more ts = some o → ∃ x, TP L d i Prod.fst (fun v a => (a, cv v)) 0 (fun _ => x) o ∧ ∀ l : List β, l.length ≤ 2000 → body (tp7 (PS L ts d i) l) = x >>= fun v => some (.inl (tp7 v.1 (l ++ [v.2]))))
  (h2 : ∀ a l, a.f_e ≠ 0 → body (tp7 a l) = some (.inr (.inr (tp7 a l)))) :
  ∀ f ts (l : List β), ts.length ≤ 2000 → l.length + ts.length ≤ 2000 → TP L d i Prod.fst (fun (v : List γ) a => (a, l ++ v.map cv)) 0 (fun _ => LF body (PS L ts d i) l) (z7c more f ts) := by
 intro f
 induction f with
 | zero => intro ts l _ _; exact z7x
 | succ f ih =>
  intro ts l ht hl
  simp only [z7c]
  cases hm : more ts with
  | none => exact TP.pure (fun n => by rw [za4 (h0 ts l ht hm)]; simp)
  | some o =>
   obtain ⟨x, hx, hb⟩ := h1 ts o ht hm
   refine TP.eq (y := fun _ => x >>= fun v => LF body v.1 (l ++ [v.2])) ?_ (fun n => by
    rw [zn2 (x := x >>= fun v => some (v.1, l ++ [v.2])) (by rw [hb l (by omega)]; simp only [Option.bind_eq_bind, Option.bind_assoc, Option.bind_some])]
    simp only [Option.bind_eq_bind, Option.bind_assoc, Option.bind_some])
   refine TP.bind (π' := Prod.fst) (mk' := fun (v : List γ) a => (a, l ++ v.map cv)) hx (fun v r ho => ?_) (fun r c p hc he => ⟨(r.1, l ++ [r.2]), he, fun n => .inl (za4 (h2 r.1 _ (z2k hc he)))⟩)
   subst ho
   have q := m.suf _ _ _ hm
   refine TP.map (g := fun w => v :: w) (ih r (l ++ [cv v]) (z2g q.1 ht) (by simp; omega)) (fun w a => by simp)
/-! ### What channels, rules, processes and systems are -/
section
variable (L : Int)
def zj2 : List ByteArray := [(ByteArray.mk #[98, 108, 111, 99, 107]), (ByteArray.mk #[100, 114, 111, 112]), (ByteArray.mk #[108, 111, 115, 115, 121])]
def mTag (ts : List Tok) : Option (Rs ByteArray) := if z2x (ByteArray.mk #[44]) ts then some (z6a L ts.tail) else none
def zem (ts : List Tok) : Rs z86 := (z6a L ts).bind fun n r1 => match z4e zj2 r1 with
 | none => .er 5 (sAt L r1)
 | some j => (sNum L r1.tail).bind fun z r2 => (z4o L (ByteArray.mk #[102, 114, 111, 109]) r2).bind fun _ r3 => (z6a L r3).bind fun a r4 => (z4o L (ByteArray.mk #[116, 111]) r4).bind fun _ r5 => (z6a L r5).bind fun b r6 =>
  (z4o L (ByteArray.mk #[123]) r6).bind fun _ r7 => (z6a L r7).bind fun t r8 => (z7c (mTag L) (r8.length + 1) r8).bind fun l r9 => (z4o L (ByteArray.mk #[125]) r9).bind fun _ r10 => (z4o L (ByteArray.mk #[59]) r10).bind fun _ r11 => .ok ⟨n, (j : Int), z, a, b, t :: l⟩ r11
def zen (ts : List Tok) : Rs z87 := (sNum L ts).bind fun a r1 => (z6a L r1).bind fun t r2 => (sNum L r2).bind fun b r3 => (z4o L (ByteArray.mk #[59]) r3).bind fun _ r4 => .ok ⟨a, t, b⟩ r4
def zeo (ts : List Tok) : Option (Rs z87) := if z2x (ByteArray.mk #[125]) ts then none else some (zen L ts)
def zep (ts : List Tok) : Rs z88 := (z6a L ts).bind fun n r1 => (z4o L (ByteArray.mk #[123]) r1).bind fun _ r2 => (z7c (zeo L) (r2.length + 1) r2).bind fun l r3 => (z4o L (ByteArray.mk #[125]) r3).bind fun _ r4 => .ok ⟨n, l⟩ r4
def mVar (ts : List Tok) : Option (Rs ByteArray) := if z2x (ByteArray.mk #[118, 97, 114]) ts then some ((z6a L ts.tail).bind fun n r1 => (z4o L (ByteArray.mk #[59]) r1).bind fun _ r2 => .ok n r2) else none
def zj3 (ts : List Tok) : Rs (List z1r) := z7e L (3 * ts.length + 2) 0 ts
def zeq (ts : List Tok) : Rs z89 := (z6a L ts).bind fun n r1 => (z4o L (ByteArray.mk #[123]) r1).bind fun _ r2 => (z7c (mVar L) (r2.length + 1) r2).bind fun l r3 => (zj3 L r3).bind fun b r4 => (z4o L (ByteArray.mk #[125]) r4).bind fun _ r5 => .ok ⟨n, l, b⟩ r5
def zer (ts : List Tok) : Option (Rs z86) := if z2x (ByteArray.mk #[99, 104, 97, 110]) ts then some (zem L ts.tail) else none
def zes (ts : List Tok) : Option (Rs z88) := if z2x (ByteArray.mk #[114, 117, 108, 101]) ts then some (zep L ts.tail) else none
def zet (ts : List Tok) : Option (Rs z89) := if z2x (ByteArray.mk #[112, 114, 111, 99]) ts then some (zeq L ts.tail) else none
def sSys (ts : List Tok) : Rs z5v := (z7c (zer L) (ts.length + 1) ts).bind fun c r1 => (z7c (zes L) (r1.length + 1) r1).bind fun r r2 => (z7c (zet L) (r2.length + 1) r2).bind fun p r3 => .ok ⟨c, r, p⟩ r3
/-- A whole text's words. -/
def sAll (ts : List Tok) : Rs z5v := (sSys L ts).bind fun v r => match r with | [] => .ok v [] | t :: _ => .er 5 (t.at_ : Int)
end
section
variable {L : Int}
theorem zfu : More (mTag L) where
 suf := fun ts v r h => by
  unfold mTag at h; split at h
  ·rename_i hs; injection h with h; exact z59 hs (z26 h).1
  ·cases h
 ne := fun ts h => by
  unfold mTag at h; split at h
  ·injection h with h; exact z4p h
  ·cases h
theorem zko {ts r : List Tok} {v : z86} (h : zem L ts = .ok v r) : r <:+ ts := by
 unfold zem at h
 obtain ⟨_, r1, h1, h⟩ := bind_ok h
 split at h
 ·cases h
 rename_i j hj
 obtain ⟨_, r2, h2, h⟩ := bind_ok h
 obtain ⟨_, r3, h3, h⟩ := bind_ok h
 obtain ⟨_, r4, h4, h⟩ := bind_ok h
 obtain ⟨_, r5, h5, h⟩ := bind_ok h
 obtain ⟨_, r6, h6, h⟩ := bind_ok h
 obtain ⟨_, r7, h7, h⟩ := bind_ok h
 obtain ⟨_, r8, h8, h⟩ := bind_ok h
 obtain ⟨_, r9, h9, h⟩ := bind_ok h
 obtain ⟨_, r10, h10, h⟩ := bind_ok h
 obtain ⟨_, r11, h11, h⟩ := bind_ok h
 injection h with _ h; subst h
 exact (z1i h11).1.trans ((z1i h10).1.trans ((z6u zfu _ _ _ _ h9).trans ((z26 h8).1.trans ((z1i h7).1.trans ((z26 h6).1.trans ((z1i h5).1.trans ((z26 h4).1.trans ((z1i h3).1.trans ((z7w h2).1.trans ((List.tail_suffix r1).trans (z26 h1).1))))))))))
theorem zn3 {ts : List Tok} : zem L ts ≠ .out := fun h => by
 unfold zem at h
 rcases z0o h with h | ⟨_, _, _, h⟩
 ·exact z4p h
 split at h
 ·cases h
 rcases z0o h with h | ⟨_, _, _, h⟩
 ·exact zfr h
 rcases z0o h with h | ⟨_, _, _, h⟩
 ·exact z39 h
 rcases z0o h with h | ⟨_, _, _, h⟩
 ·exact z4p h
 rcases z0o h with h | ⟨_, _, _, h⟩
 ·exact z39 h
 rcases z0o h with h | ⟨_, _, _, h⟩
 ·exact z4p h
 rcases z0o h with h | ⟨_, _, _, h⟩
 ·exact z39 h
 rcases z0o h with h | ⟨_, _, _, h⟩
 ·exact z4p h
 rcases z0o h with h | ⟨_, _, _, h⟩
 ·exact z9y zfu _ _ (Nat.le_refl _) h
 rcases z0o h with h | ⟨_, _, _, h⟩
 ·exact z39 h
 rcases z0o h with h | ⟨_, _, _, h⟩
 ·exact z39 h
 ·cases h
theorem zkp {ts r : List Tok} {v : z87} (h : zen L ts = .ok v r) : r <:+ ts ∧ r.length < ts.length := by
 unfold zen at h
 obtain ⟨_, r1, h1, h⟩ := bind_ok h
 obtain ⟨_, r2, h2, h⟩ := bind_ok h
 obtain ⟨_, r3, h3, h⟩ := bind_ok h
 obtain ⟨_, r4, h4, h⟩ := bind_ok h
 injection h with _ h; subst h
 exact zek ((z1i h4).1.trans ((z7w h3).1.trans (z26 h2).1)) (z7w h1).1 (z7w h1).2
theorem zn4 {ts : List Tok} : zen L ts ≠ .out := fun h => by
 unfold zen at h
 rcases z0o h with h | ⟨_, _, _, h⟩
 ·exact zfr h
 rcases z0o h with h | ⟨_, _, _, h⟩
 ·exact z4p h
 rcases z0o h with h | ⟨_, _, _, h⟩
 ·exact zfr h
 rcases z0o h with h | ⟨_, _, _, h⟩
 ·exact z39 h
 ·cases h
theorem zcb : More (zeo L) where
 suf := fun ts v r h => by
  unfold zeo at h; split at h
  ·cases h
  ·injection h with h; exact zkp h
 ne := fun ts h => by
  unfold zeo at h; split at h
  ·cases h
  ·injection h with h; exact zn4 h
theorem zkq {ts r : List Tok} {v : z88} (h : zep L ts = .ok v r) : r <:+ ts := by
 unfold zep at h
 obtain ⟨_, r1, h1, h⟩ := bind_ok h
 obtain ⟨_, r2, h2, h⟩ := bind_ok h
 obtain ⟨_, r3, h3, h⟩ := bind_ok h
 obtain ⟨_, r4, h4, h⟩ := bind_ok h
 injection h with _ h; subst h
 exact (z1i h4).1.trans ((z6u zcb _ _ _ _ h3).trans ((z1i h2).1.trans (z26 h1).1))
theorem zn5 {ts : List Tok} : zep L ts ≠ .out := fun h => by
 unfold zep at h
 rcases z0o h with h | ⟨_, _, _, h⟩
 ·exact z4p h
 rcases z0o h with h | ⟨_, _, _, h⟩
 ·exact z39 h
 rcases z0o h with h | ⟨_, _, _, h⟩
 ·exact z9y zcb _ _ (Nat.le_refl _) h
 rcases z0o h with h | ⟨_, _, _, h⟩
 ·exact z39 h
 ·cases h
theorem zfv : More (mVar L) where
 suf := fun ts v r h => by
  unfold mVar at h; split at h
  ·rename_i hs; injection h with h
   obtain ⟨_, r1, h1, h⟩ := bind_ok h
   obtain ⟨_, r2, h2, h⟩ := bind_ok h
   injection h with _ h; subst h
   exact z59 hs ((z1i h2).1.trans (z26 h1).1)
  ·cases h
 ne := fun ts h => by
  unfold mVar at h; split at h
  ·injection h with h
   rcases z0o h with h | ⟨_, _, _, h⟩
   ·exact z4p h
   rcases z0o h with h | ⟨_, _, _, h⟩
   ·exact z39 h
   ·cases h
  ·cases h
theorem zfw {ts r : List Tok} {v : List z1r} (h : zj3 L ts = .ok v r) : r <:+ ts := (sufS L _).stmts _ _ _ _ h
theorem zn6 {ts : List Tok} : zj3 L ts ≠ .out := (fuS L _).stmts _ _ (Nat.le_refl _)
theorem zkr {ts r : List Tok} {v : z89} (h : zeq L ts = .ok v r) : r <:+ ts := by
 unfold zeq at h
 obtain ⟨_, r1, h1, h⟩ := bind_ok h
 obtain ⟨_, r2, h2, h⟩ := bind_ok h
 obtain ⟨_, r3, h3, h⟩ := bind_ok h
 obtain ⟨_, r4, h4, h⟩ := bind_ok h
 obtain ⟨_, r5, h5, h⟩ := bind_ok h
 injection h with _ h; subst h
 exact (z1i h5).1.trans ((zfw h4).trans ((z6u zfv _ _ _ _ h3).trans ((z1i h2).1.trans (z26 h1).1)))
theorem zn7 {ts : List Tok} : zeq L ts ≠ .out := fun h => by
 unfold zeq at h
 rcases z0o h with h | ⟨_, _, _, h⟩
 ·exact z4p h
 rcases z0o h with h | ⟨_, _, _, h⟩
 ·exact z39 h
 rcases z0o h with h | ⟨_, _, _, h⟩
 ·exact z9y zfv _ _ (Nat.le_refl _) h
 rcases z0o h with h | ⟨_, _, _, h⟩
 ·exact zn6 h
 rcases z0o h with h | ⟨_, _, _, h⟩
 ·exact z39 h
 ·cases h
theorem zeu : More (zer L) where
 suf := fun ts v r h => by
  unfold zer at h; split at h
  ·rename_i hs; injection h with h; exact z59 hs (zko h)
  ·cases h
 ne := fun ts h => by
  unfold zer at h; split at h
  ·injection h with h; exact zn3 h
  ·cases h
theorem zev : More (zes L) where
 suf := fun ts v r h => by
  unfold zes at h; split at h
  ·rename_i hs; injection h with h; exact z59 hs (zkq h)
  ·cases h
 ne := fun ts h => by
  unfold zes at h; split at h
  ·injection h with h; exact zn5 h
  ·cases h
theorem zj4 : More (zet L) where
 suf := fun ts v r h => by
  unfold zet at h; split at h
  ·rename_i hs; injection h with h; exact z59 hs (zkr h)
  ·cases h
 ne := fun ts h => by
  unfold zet at h; split at h
  ·injection h with h; exact zn7 h
  ·cases h
theorem zlk {ts : List Tok} : sSys L ts ≠ .out := fun h => by
 unfold sSys at h
 rcases z0o h with h | ⟨_, _, _, h⟩
 ·exact z9y zeu _ _ (Nat.le_refl _) h
 rcases z0o h with h | ⟨_, _, _, h⟩
 ·exact z9y zev _ _ (Nat.le_refl _) h
 rcases z0o h with h | ⟨_, _, _, h⟩
 ·exact z9y zj4 _ _ (Nat.le_refl _) h
 ·cases h
end
/-! ### Errors -/
section
variable {a : z00} (h : a.f_e ≠ 0)
include h
theorem zks : z0w a [(ByteArray.mk #[98, 108, 111, 99, 107]), (ByteArray.mk #[100, 114, 111, 112]), (ByteArray.mk #[108, 111, 115, 115, 121])] = some (a, -1) := zix h _ (by decide)
theorem zkt : z3m a = some (a, []) := Sn.unf fun n => zel h n
theorem zll (l : List ByteArray) : z15 (tp7 a l) = some (.inr (.inr (tp7 a l))) := by
 unfold z15
 show (z09 a _ >>= _) = _
 rw [z7v h]; rfl
theorem zlm (l : List z47) : z1u (tp7 a l) = some (.inr (.inr (tp7 a l))) := by
 unfold z1u
 rw [if_neg (by simpa [tp7] using h)]; rfl
theorem zln (l : List ByteArray) : z1v (tp7 a l) = some (.inr (.inr (tp7 a l))) := by
 unfold z1v
 show (z09 a _ >>= _) = _
 rw [z7v h]; rfl
theorem zou (l : List z2y) : z3d (tp7 a l) = some (.inr (.inr (tp7 a l))) := by
 unfold z3d
 show (z09 a _ >>= _) = _
 rw [z7v h]; rfl
theorem zlo (l : List z3h) : z3e (tp7 a l) = some (.inr (.inr (tp7 a l))) := by
 unfold z3e
 show (z09 a _ >>= _) = _
 rw [z7v h]; rfl
theorem zj5 (l : List z3i) : z2z (tp7 a l) = some (.inr (.inr (tp7 a l))) := by
 unfold z2z
 show (z09 a _ >>= _) = _
 rw [z7v h]; rfl
theorem zov (l : List ByteArray) : LF z15 a l = some (a, l) := za4 (zll h l)
theorem zow (l : List z47) : LF z1u a l = some (a, l) := za4 (zlm h l)
theorem zox (l : List ByteArray) : LF z1v a l = some (a, l) := za4 (zln h l)
end
theorem eQ {a : z00} (h : a.f_e ≠ 0) : (∀ w, z02 a w = some a) ∧ z08 a = some (a, ByteArray.mk #[]) ∧ z12 a = some (a, 0) ∧ (∀ c, z18 a c = some a) ∧ (∀ l, LF z15 a l = some (a, l)) ∧ (∀ l, LF z1u a l = some (a, l)) ∧ (∀ l, LF z1v a l = some (a, l)) ∧ z3m a = some (a, []) := ⟨z6o h, zbq h, zom h, zbp h, zov h, zow h, zox h, zkt h⟩
theorem z2p (x : ByteArray) : app 16 [] [x] = some [x] := rfl
theorem z4q (a : z00) : z00.mk a.f_l a.f_end a.f_e a.f_at a.f_deep a.f_in = a := rfl
/-! ### The program's -/
instance : Inhabited z47 := ⟨⟨0, nB, 0⟩⟩
instance : Inhabited z2y := ⟨⟨nB, 0, 0, nB, nB, []⟩⟩
instance : Inhabited z3h := ⟨⟨nB, []⟩⟩
instance : Inhabited z3i := ⟨⟨nB, [], []⟩⟩
theorem zn8 (a : z00) : z36 a = z08 a >>= fun v1 => z0w v1.1 [(ByteArray.mk #[98, 108, 111, 99, 107]), (ByteArray.mk #[100, 114, 111, 112]), (ByteArray.mk #[108, 111, 115, 115, 121])] >>= fun v2 =>
  if (decide (v2.2 < 0)) then (z18 v2.1 5 >>= fun v3 => some (v3, (z2y.mk v1.2 v2.2 0 (ByteArray.mk #[]) (ByteArray.mk #[]) [])))
  else (z12 v2.1 >>= fun v4 => z02 v4.1 (ByteArray.mk #[102, 114, 111, 109]) >>= fun v5 => z08 v5 >>= fun v6 => z02 v6.1 (ByteArray.mk #[116, 111]) >>= fun v7 => z08 v7 >>= fun v8 => z02 v8.1 (ByteArray.mk #[123]) >>= fun v9 =>
   z08 v9 >>= fun v10 => app 16 [] [v10.2] >>= fun v11 => LF z15 v10.1 v11 >>= fun w => z02 w.1 (ByteArray.mk #[125]) >>= fun v15 => z02 v15 (ByteArray.mk #[59]) >>= fun v16 => some (v16, (z2y.mk v1.2 v2.2 v4.2 v6.2 v8.2 w.2))) := by
 simp only [← zft]; rfl
theorem zn9 (a : z00) : z3r a = z08 a >>= fun v1 => z02 v1.1 (ByteArray.mk #[123]) >>= fun v2 => LF z1u v2 [] >>= fun w => z02 w.1 (ByteArray.mk #[125]) >>= fun v9 => some (v9, (z3h.mk v1.2 w.2)) := by
 simp only [← zft]; rfl
theorem zna (a : z00) : z3t a = z08 a >>= fun v1 => z02 v1.1 (ByteArray.mk #[123]) >>= fun v2 => LF z1v v2 [] >>= fun w => z3m w.1 >>= fun v7 => z02 v7.1 (ByteArray.mk #[125]) >>= fun v8 => some (v8, (z3i.mk v1.2 w.2 v7.2)) := by
 simp only [← zft]; rfl
abbrev mkCh : z86 → z00 → z00 × z2y := fun v a => (a, cCh v)
abbrev mkMo : z87 → z00 → z00 × z47 := fun v a => (a, cMo v)
abbrev mkRu : z88 → z00 → z00 × z3h := fun v a => (a, cRu v)
abbrev mkPr : z89 → z00 → z00 × z3i := fun v a => (a, cPr v)
section
variable {L i : Int}
theorem zoy {ts : List Tok} {t : ByteArray} (hl : ts.length + 1 ≤ 2000) : TP L 0 i Prod.fst (fun v a => (a, [t] ++ v.map id)) 0 (fun _ => LF z15 (PS L ts 0 i) [t]) (z7c (mTag L) (ts.length + 1) ts) := by
 refine zbr (cv := id) zfu (fun ts l ht hm => ?_) (fun ts o ht hm => ?_) (fun a l h => zll h l) _ ts [t] (by omega) (by simp; omega)
 ·unfold mTag at hm
  cases hs : z2x (ByteArray.mk #[44]) ts with
  | true => rw [hs] at hm; cases hm
  | false =>
   unfold z15
   show (z09 (PS L ts 0 i) _ >>= _) = _
   rw [z4z ht, hs]; rfl
 ·unfold mTag at hm
  cases hs : z2x (ByteArray.mk #[44]) ts with
  | false => rw [hs] at hm; cases hm
  | true =>
   rw [hs] at hm; injection hm with hm; subst hm
   have l0 : ts.tail.length ≤ 2000 := by have := z35 hs; omega
   refine ⟨z08 (PS L ts.tail 0 i), z64 l0, fun l hll => ?_⟩
   unfold z15
   show (z09 (PS L ts 0 i) _ >>= _) = _
   rw [z4z ht, hs]
   simp only [Option.bind_eq_bind, Option.bind_some, if_true]
   congr 1; funext v
   show (app 16 l [v.2]).bind _ = _
   rw [z6t (by simp; omega)]; rfl
theorem zoz {ts : List Tok} {H : Nat} (hl : ts.length ≤ 2000) : TP L 0 i Prod.fst mkCh H (fun _ => z36 (PS L ts 0 i)) (zem L ts) := by
 refine TP.eq (y := fun _ => _) ?_ (fun _ => zn8 _)
 unfold zem
 refine TP.bind (π' := Prod.fst) (mk' := mkCh) (z64 hl) (fun m r1 h1 => ?_) (fun r c p hc he => z2f (by simp only [zks (a := r.1) (z2k hc he), zbp (a := r.1) (z2k hc he), Option.bind_eq_bind, Option.bind_some, neg1, if_true]; rfl) ⟨he.1, he.2⟩)
 have l1 := z2g (z26 h1).1 hl
 have hw := zc7 (L := L) (d := 0) (i := i) l1 zj2 (by decide)
 cases hs : z4e zj2 r1 with
 | none =>
  rw [hs] at hw
  refine TP.err (r := ((⟨r1.map tokT, L, 5, sAt L r1, 0, i⟩ : z00), ⟨m, -1, 0, nB, nB, []⟩)) (fun n => ?_) (by decide) ⟨rfl, rfl⟩
  show (z0w (PS L r1 0 i) zj2).bind _ = _
  rw [hw]
  simp only [Option.bind_some, neg1, if_true, zaz, Option.bind_eq_bind]
 | some j =>
  rw [hs] at hw
  have q1 : decide (((j : Nat) : Int) < 0) = false := by simp
  have l2 : r1.tail.length ≤ 2000 := by have := (z56 hs).1; omega
  refine TP.eq (y := fun _ => z12 (PS L r1.tail 0 i) >>= fun v4 => z02 v4.1 (ByteArray.mk #[102, 114, 111, 109]) >>= fun v5 => z08 v5 >>= fun v6 => z02 v6.1 (ByteArray.mk #[116, 111]) >>= fun v7 => z08 v7 >>= fun v8 => z02 v8.1 (ByteArray.mk #[123]) >>= fun v9 =>
   z08 v9 >>= fun v10 => app 16 [] [v10.2] >>= fun v11 => LF z15 v10.1 v11 >>= fun w => z02 w.1 (ByteArray.mk #[125]) >>= fun v15 => z02 v15 (ByteArray.mk #[59]) >>= fun v16 => some (v16, (z2y.mk m (j : Int) v4.2 v6.2 v8.2 w.2))) ?_ (fun n => by
   show (z0w (PS L r1 0 i) zj2).bind _ = _
   rw [hw]
   simp only [Option.bind_some, q1, Bool.false_eq_true, if_false])
  refine TP.bind (π' := Prod.fst) (mk' := mkCh) (zkd l2) (fun z r2 h2 => ?_) (fun r c p hc he => z2f (by simp only [eQ (a := r.1) (z2k hc he), z2p, z4q, Option.bind_eq_bind, Option.bind_some]; rfl) ⟨he.1, he.2⟩)
  have l2 := z2g (z7w h2).1 l2
  refine TP.bind (π' := Prod.fst) (mk' := mkCh) (z44 l2 _) (fun _ r3 h3 => ?_) (fun r c p hc he => z2f (by simp only [eQ (a := r) (z2k hc he), z2p, z4q, Option.bind_eq_bind, Option.bind_some]; rfl) ⟨he.1, he.2⟩)
  have l3 := z2g (z1i h3).1 l2
  refine TP.bind (π' := Prod.fst) (mk' := mkCh) (z64 l3) (fun a r4 h4 => ?_) (fun r c p hc he => z2f (by simp only [eQ (a := r.1) (z2k hc he), z2p, z4q, Option.bind_eq_bind, Option.bind_some]; rfl) ⟨he.1, he.2⟩)
  have l4 := z2g (z26 h4).1 l3
  refine TP.bind (π' := Prod.fst) (mk' := mkCh) (z44 l4 _) (fun _ r5 h5 => ?_) (fun r c p hc he => z2f (by simp only [eQ (a := r) (z2k hc he), z2p, z4q, Option.bind_eq_bind, Option.bind_some]; rfl) ⟨he.1, he.2⟩)
  have l5 := z2g (z1i h5).1 l4
  refine TP.bind (π' := Prod.fst) (mk' := mkCh) (z64 l5) (fun b r6 h6 => ?_) (fun r c p hc he => z2f (by simp only [eQ (a := r.1) (z2k hc he), z2p, z4q, Option.bind_eq_bind, Option.bind_some]; rfl) ⟨he.1, he.2⟩)
  have l6 := z2g (z26 h6).1 l5
  refine TP.bind (π' := Prod.fst) (mk' := mkCh) (z44 l6 _) (fun _ r7 h7 => ?_) (fun r c p hc he => z2f (by simp only [eQ (a := r) (z2k hc he), z2p, z4q, Option.bind_eq_bind, Option.bind_some]; rfl) ⟨he.1, he.2⟩)
  have l7 := z2g (z1i h7).1 l6
  refine TP.bind (π' := Prod.fst) (mk' := mkCh) (z64 l7) (fun t r8 h8 => ?_) (fun r c p hc he => z2f (by simp only [eQ (a := r.1) (z2k hc he), z2p, z4q, Option.bind_eq_bind, Option.bind_some]; rfl) ⟨he.1, he.2⟩)
  have z8 := (z26 h8).2
  have l8 := z2g (z26 h8).1 l7
  refine TP.eq (y := fun _ => LF z15 (PS L r8 0 i) [t] >>= fun w => z02 w.1 (ByteArray.mk #[125]) >>= fun v15 => z02 v15 (ByteArray.mk #[59]) >>= fun v16 => some (v16, (z2y.mk m (j : Int) z a b w.2))) ?_ (fun n => rfl)
  refine TP.bind (π' := Prod.fst) (mk' := mkCh) ((zoy (t := t) (by omega)).mono (Nat.zero_le _)) (fun l r9 h9 => ?_) (fun r c p hc he => z2f (by simp only [eQ (a := r.1) (z2k hc he), z2p, z4q, Option.bind_eq_bind, Option.bind_some]; rfl) ⟨he.1, he.2⟩)
  have l9 := z2g (z6u zfu _ _ _ _ h9) l8
  refine TP.bind (π' := Prod.fst) (mk' := mkCh) (z44 l9 _) (fun _ r10 h10 => ?_) (fun r c p hc he => z2f (by simp only [eQ (a := r) (z2k hc he), z2p, z4q, Option.bind_eq_bind, Option.bind_some]; rfl) ⟨he.1, he.2⟩)
  have l10 := z2g (z1i h10).1 l9
  refine TP.bind (π' := Prod.fst) (mk' := mkCh) (z44 l10 _) (fun _ r11 h11 => TP.pure (fun n => ?_)) (fun r c p hc he => z2f (by simp only [eQ (a := r) (z2k hc he), z2p, z4q, Option.bind_eq_bind, Option.bind_some]; rfl) ⟨he.1, he.2⟩)
  simp [mkCh, cCh]
theorem zp0 {ts : List Tok} (hl : ts.length ≤ 2000) : TP L 0 i Prod.fst mkMo 0 (fun _ => z12 (PS L ts 0 i) >>= fun v4 => z08 v4.1 >>= fun v5 => z12 v5.1 >>= fun v6 => z02 v6.1 (ByteArray.mk #[59]) >>= fun v7 => some (v7, z47.mk v4.2 v5.2 v6.2)) (zen L ts) := by
 unfold zen
 refine TP.bind (π' := Prod.fst) (mk' := mkMo) (zkd hl) (fun a r1 h1 => ?_) (fun r c p hc he => z2f (by simp only [eQ (a := r.1) (z2k hc he), z2p, z4q, Option.bind_eq_bind, Option.bind_some]; rfl) ⟨he.1, he.2⟩)
 have l1 := z2g (z7w h1).1 hl
 refine TP.bind (π' := Prod.fst) (mk' := mkMo) (z64 l1) (fun t r2 h2 => ?_) (fun r c p hc he => z2f (by simp only [eQ (a := r.1) (z2k hc he), z2p, z4q, Option.bind_eq_bind, Option.bind_some]; rfl) ⟨he.1, he.2⟩)
 have l2 := z2g (z26 h2).1 l1
 refine TP.bind (π' := Prod.fst) (mk' := mkMo) (zkd l2) (fun b r3 h3 => ?_) (fun r c p hc he => z2f (by simp only [eQ (a := r.1) (z2k hc he), z2p, z4q, Option.bind_eq_bind, Option.bind_some]; rfl) ⟨he.1, he.2⟩)
 have l3 := z2g (z7w h3).1 l2
 exact TP.bind (π' := Prod.fst) (mk' := mkMo) (z44 l3 _) (fun _ r4 h4 => TP.pure (fun n => rfl)) (fun r c p hc he => ⟨(r, ⟨a, t, b⟩), he, fun n => .inl rfl⟩)
theorem znb {ts : List Tok} (hl : ts.length ≤ 2000) : TP L 0 i Prod.fst (fun v a => (a, [] ++ v.map cMo)) 0 (fun _ => LF z1u (PS L ts 0 i) []) (z7c (zeo L) (ts.length + 1) ts) := by
 refine zbr (cv := cMo) zcb (fun ts l ht hm => ?_) (fun ts o ht hm => ?_) (fun a l h => zlm h l) _ ts [] (by omega) (by simp; omega)
 ·unfold zeo at hm
  cases hs : z2x (ByteArray.mk #[125]) ts with
  | false => rw [hs] at hm; cases hm
  | true =>
   unfold z1u
   rw [if_pos (by rfl)]
   show ((z1q (PS L ts 0 i) (ByteArray.mk #[125]) >>= fun v5 => some (!v5)) >>= _) = _
   rw [z8g, hs]; rfl
 ·unfold zeo at hm
  cases hs : z2x (ByteArray.mk #[125]) ts with
  | true => rw [hs] at hm; cases hm
  | false =>
   rw [hs] at hm; injection hm with hm; subst hm
   refine ⟨_, zp0 ht, fun l hll => ?_⟩
   unfold z1u
   rw [if_pos (by rfl)]
   show ((z1q (PS L ts 0 i) (ByteArray.mk #[125]) >>= fun v5 => some (!v5)) >>= _) = _
   rw [z8g, hs]
   simp only [Option.bind_eq_bind, Option.bind_some, Bool.not_false, if_true, Option.bind_assoc]
   congr 1; funext v4
   congr 1; funext v5
   congr 1; funext v6
   congr 1; funext v7
   show (app 32 l [_]).bind _ = _
   rw [z6t (by simp; omega)]; rfl
theorem zp1 {ts : List Tok} {H : Nat} (hl : ts.length ≤ 2000) : TP L 0 i Prod.fst mkRu H (fun _ => z3r (PS L ts 0 i)) (zep L ts) := by
 refine TP.eq (y := fun _ => _) ?_ (fun _ => zn9 _)
 unfold zep
 refine TP.bind (π' := Prod.fst) (mk' := mkRu) (z64 hl) (fun m r1 h1 => ?_) (fun r c p hc he => z2f (by simp only [eQ (a := r.1) (z2k hc he), z2p, z4q, Option.bind_eq_bind, Option.bind_some]; rfl) ⟨he.1, he.2⟩)
 have l1 := z2g (z26 h1).1 hl
 refine TP.bind (π' := Prod.fst) (mk' := mkRu) (z44 l1 _) (fun _ r2 h2 => ?_) (fun r c p hc he => z2f (by simp only [eQ (a := r) (z2k hc he), z2p, z4q, Option.bind_eq_bind, Option.bind_some]; rfl) ⟨he.1, he.2⟩)
 have l2 := z2g (z1i h2).1 l1
 refine TP.bind (π' := Prod.fst) (mk' := mkRu) ((znb l2).mono (Nat.zero_le _)) (fun l r3 h3 => ?_) (fun r c p hc he => z2f (by simp only [eQ (a := r.1) (z2k hc he), z2p, z4q, Option.bind_eq_bind, Option.bind_some]; rfl) ⟨he.1, he.2⟩)
 have l3 := z2g (z6u zcb _ _ _ _ h3) l2
 refine TP.bind (π' := Prod.fst) (mk' := mkRu) (z44 l3 _) (fun _ r4 h4 => TP.pure (fun n => rfl)) (fun r c p hc he => z2f (by simp only [eQ (a := r) (z2k hc he), z2p, z4q, Option.bind_eq_bind, Option.bind_some]; rfl) ⟨he.1, he.2⟩)
theorem zp2 {ts : List Tok} (hl : ts.length ≤ 2000) : TP L 0 i Prod.fst (fun v a => (a, [] ++ v.map id)) 0 (fun _ => LF z1v (PS L ts 0 i) []) (z7c (mVar L) (ts.length + 1) ts) := by
 refine zbr (cv := id) zfv (fun ts l ht hm => ?_) (fun ts o ht hm => ?_) (fun a l h => zln h l) _ ts [] (by omega) (by simp; omega)
 ·unfold mVar at hm
  cases hs : z2x (ByteArray.mk #[118, 97, 114]) ts with
  | true => rw [hs] at hm; cases hm
  | false =>
   unfold z1v
   show (z09 (PS L ts 0 i) _ >>= _) = _
   rw [z4z ht, hs]; rfl
 ·unfold mVar at hm
  cases hs : z2x (ByteArray.mk #[118, 97, 114]) ts with
  | false => rw [hs] at hm; cases hm
  | true =>
   rw [hs] at hm; injection hm with hm; subst hm
   have l0 : ts.tail.length ≤ 2000 := by have := z35 hs; omega
   refine ⟨z08 (PS L ts.tail 0 i) >>= fun v4 => z02 v4.1 (ByteArray.mk #[59]) >>= fun v6 => some (v6, v4.2), ?_, fun l hll => ?_⟩
   ·refine TP.bind (π' := Prod.fst) (mk' := fun v a => (a, id v)) (z64 l0) (fun m r1 h1 => ?_) (fun r c p hc he => z2f (by simp only [eQ (a := r.1) (z2k hc he), z2p, z4q, Option.bind_eq_bind, Option.bind_some]) ⟨he.1, he.2⟩)
    exact TP.bind (π' := Prod.fst) (mk' := fun v a => (a, id v)) (z44 (z2g (z26 h1).1 l0) _) (fun _ r2 h2 => TP.pure (fun n => rfl)) (fun r c p hc he => ⟨(r, m), he, fun n => .inl rfl⟩)
   ·unfold z1v
    show (z09 (PS L ts 0 i) _ >>= _) = _
    rw [z4z ht, hs]
    simp only [Option.bind_eq_bind, Option.bind_some, if_true, Option.bind_assoc]
    congr 1; funext v
    show (app 16 l [v.2]).bind _ = _
    rw [z6t (by simp; omega)]; rfl
theorem zp3 {ts : List Tok} {H : Nat} (hl : ts.length ≤ 2000) : TP L 0 0 Prod.fst mkL H (fun _ => z3m (PS L ts 0 0)) (zj3 L ts) := by
 have h := (pt L (3 * ts.length + 2)).stmts 0 ts [] (by omega) hl (by simpa using hl)
 have h := TP.up (F := fun n => z0n n (PS L ts 0 0)) rfl (fun n => rfl) h
 have h := h.unf.mono (Nat.zero_le H)
 intro hne
 obtain ⟨r, g, s⟩ := h hne
 refine ⟨r, ?_, s⟩
 unfold zj3
 simpa using g
theorem zp4 {ts : List Tok} {H : Nat} (hl : ts.length ≤ 2000) : TP L 0 0 Prod.fst mkPr H (fun _ => z3t (PS L ts 0 0)) (zeq L ts) := by
 refine TP.eq (y := fun _ => _) ?_ (fun _ => zna _)
 unfold zeq
 refine TP.bind (π' := Prod.fst) (mk' := mkPr) (z64 hl) (fun m r1 h1 => ?_) (fun r c p hc he => z2f (by simp only [eQ (a := r.1) (z2k hc he), z2p, z4q, Option.bind_eq_bind, Option.bind_some]; rfl) ⟨he.1, he.2⟩)
 have l1 := z2g (z26 h1).1 hl
 refine TP.bind (π' := Prod.fst) (mk' := mkPr) (z44 l1 _) (fun _ r2 h2 => ?_) (fun r c p hc he => z2f (by simp only [eQ (a := r) (z2k hc he), z2p, z4q, Option.bind_eq_bind, Option.bind_some]; rfl) ⟨he.1, he.2⟩)
 have l2 := z2g (z1i h2).1 l1
 refine TP.bind (π' := Prod.fst) (mk' := mkPr) ((zp2 l2).mono (Nat.zero_le _)) (fun l r3 h3 => ?_) (fun r c p hc he => z2f (by simp only [eQ (a := r.1) (z2k hc he), z2p, z4q, Option.bind_eq_bind, Option.bind_some]; rfl) ⟨he.1, he.2⟩)
 have l3 := z2g (z6u zfv _ _ _ _ h3) l2
 refine TP.bind (π' := Prod.fst) (mk' := mkPr) (zp3 l3) (fun b r4 h4 => ?_) (fun r c p hc he => z2f (by simp only [eQ (a := r.1) (z2k hc he), z2p, z4q, Option.bind_eq_bind, Option.bind_some]; rfl) ⟨he.1, he.2⟩)
 have l4 := z2g (zfw h4) l3
 refine TP.bind (π' := Prod.fst) (mk' := mkPr) (z44 l4 _) (fun _ r5 h5 => TP.pure (fun n => ?_)) (fun r c p hc he => z2f (by simp only [eQ (a := r) (z2k hc he), z2p, z4q, Option.bind_eq_bind, Option.bind_some]; rfl) ⟨he.1, he.2⟩)
 simp [mkPr, cPr]
theorem znc {ts : List Tok} (hl : ts.length ≤ 2000) : TP L 0 0 Prod.fst (fun v a => (a, [] ++ v.map cCh)) 0 (fun _ => LF z3d (PS L ts 0 0) []) (z7c (zer L) (ts.length + 1) ts) := by
 refine zbr (cv := cCh) zeu (fun ts l ht hm => ?_) (fun ts o ht hm => ?_) (fun a l h => zou h l) _ ts [] (by omega) (by simp; omega)
 ·unfold zer at hm
  cases hs : z2x (ByteArray.mk #[99, 104, 97, 110]) ts with
  | true => rw [hs] at hm; cases hm
  | false =>
   unfold z3d
   show (z09 (PS L ts 0 0) _ >>= _) = _
   rw [z4z ht, hs]; rfl
 ·unfold zer at hm
  cases hs : z2x (ByteArray.mk #[99, 104, 97, 110]) ts with
  | false => rw [hs] at hm; cases hm
  | true =>
   rw [hs] at hm; injection hm with hm; subst hm
   have l0 : ts.tail.length ≤ 2000 := by have := z35 hs; omega
   refine ⟨z36 (PS L ts.tail 0 0), zoz l0, fun l hll => ?_⟩
   unfold z3d
   show (z09 (PS L ts 0 0) _ >>= _) = _
   rw [z4z ht, hs]
   simp only [Option.bind_eq_bind, Option.bind_some, if_true]
   congr 1; funext v
   show (app 88 l [v.2]).bind _ = _
   rw [z6t (by simp; omega)]; rfl
theorem znd {ts : List Tok} (hl : ts.length ≤ 2000) : TP L 0 0 Prod.fst (fun v a => (a, [] ++ v.map cRu)) 0 (fun _ => LF z3e (PS L ts 0 0) []) (z7c (zes L) (ts.length + 1) ts) := by
 refine zbr (cv := cRu) zev (fun ts l ht hm => ?_) (fun ts o ht hm => ?_) (fun a l h => zlo h l) _ ts [] (by omega) (by simp; omega)
 ·unfold zes at hm
  cases hs : z2x (ByteArray.mk #[114, 117, 108, 101]) ts with
  | true => rw [hs] at hm; cases hm
  | false =>
   unfold z3e
   show (z09 (PS L ts 0 0) _ >>= _) = _
   rw [z4z ht, hs]; rfl
 ·unfold zes at hm
  cases hs : z2x (ByteArray.mk #[114, 117, 108, 101]) ts with
  | false => rw [hs] at hm; cases hm
  | true =>
   rw [hs] at hm; injection hm with hm; subst hm
   have l0 : ts.tail.length ≤ 2000 := by have := z35 hs; omega
   refine ⟨z3r (PS L ts.tail 0 0), zp1 l0, fun l hll => ?_⟩
   unfold z3e
   show (z09 (PS L ts 0 0) _ >>= _) = _
   rw [z4z ht, hs]
   simp only [Option.bind_eq_bind, Option.bind_some, if_true]
   congr 1; funext v
   show (app 40 l [v.2]).bind _ = _
   rw [z6t (by simp; omega)]; rfl
theorem zne {ts : List Tok} (hl : ts.length ≤ 2000) : TP L 0 0 Prod.fst (fun v a => (a, [] ++ v.map cPr)) 0 (fun _ => LF z2z (PS L ts 0 0) []) (z7c (zet L) (ts.length + 1) ts) := by
 refine zbr (cv := cPr) zj4 (fun ts l ht hm => ?_) (fun ts o ht hm => ?_) (fun a l h => zj5 h l) _ ts [] (by omega) (by simp; omega)
 ·unfold zet at hm
  cases hs : z2x (ByteArray.mk #[112, 114, 111, 99]) ts with
  | true => rw [hs] at hm; cases hm
  | false =>
   unfold z2z
   show (z09 (PS L ts 0 0) _ >>= _) = _
   rw [z4z ht, hs]; rfl
 ·unfold zet at hm
  cases hs : z2x (ByteArray.mk #[112, 114, 111, 99]) ts with
  | false => rw [hs] at hm; cases hm
  | true =>
   rw [hs] at hm; injection hm with hm; subst hm
   have l0 : ts.tail.length ≤ 2000 := by have := z35 hs; omega
   refine ⟨z3t (PS L ts.tail 0 0), zp4 l0, fun l hll => ?_⟩
   unfold z2z
   show (z09 (PS L ts 0 0) _ >>= _) = _
   rw [z4z ht, hs]
   simp only [Option.bind_eq_bind, Option.bind_some, if_true]
   congr 1; funext v
   show (app 64 l [v.2]).bind _ = _
   rw [z6t (by simp; omega)]; rfl

end
/-! ### Whole texts -/
noncomputable def pAll (a : z00) : Option (z00 × z2h) := LF z3d a [] >>= fun c => LF z3e c.1 [] >>= fun r => LF z2z r.1 [] >>= fun p => some (p.1, ⟨c.2, r.2, p.2⟩)
noncomputable def pFin (v : z00 × z2h) : Option (z2h × Int × Int) :=
 if (decide ((v.1.f_l.length : Int) > 0)) then (z18 v.1 5 >>= fun w => if (w.f_e != 0) then some ((z2h.mk [] [] []), w.f_at, w.f_e) else some (v.2, 0, 0))
 else (if (v.1.f_e != 0) then some ((z2h.mk [] [] []), v.1.f_at, v.1.f_e) else some (v.2, 0, 0))
theorem zfx (s : ByteArray) : z33 s = z8q s >>= fun v1 => if (v1.2.2 != 0) then some ((z2h.mk [] [] []), v1.2.1, v1.2.2) else pAll ⟨v1.1, (s.size : Int), 0, 0, 0, 0⟩ >>= pFin := by
 unfold pAll
 simp only [Option.bind_eq_bind, Option.bind_assoc, Option.bind_some]
 simp only [← Option.bind_eq_bind, ← zft]
 rfl
section
variable {L : Int} {ts : List Tok}
theorem zpw (hl : ts.length ≤ 2000) : TP L 0 0 Prod.fst (fun v a => (a, cSys v)) 0 (fun _ => pAll (PS L ts 0 0)) (sSys L ts) := by
 unfold sSys pAll
 refine TP.bind (π' := Prod.fst) (mk' := fun v a => (a, cSys v)) (znc hl) (fun c r1 h1 => ?_) (fun r c p hc he => ⟨(r.1, ⟨r.2, [], []⟩), he, fun n => .inl (by rw [za4 (zlo (z2k hc he) [])]; show (LF z2z r.1 [] >>= _) = _; rw [za4 (zj5 (z2k hc he) [])]; rfl)⟩)
 have l1 := z2g (z6u zeu _ _ _ _ h1) hl
 refine TP.bind (π' := Prod.fst) (mk' := fun v a => (a, cSys v)) (znd l1) (fun d r2 h2 => ?_) (fun r cc p hc he => ⟨(r.1, ⟨c.map cCh, r.2, []⟩), he, fun n => .inl (by rw [za4 (zj5 (z2k hc he) [])]; rfl)⟩)
 have l2 := z2g (z6u zev _ _ _ _ h2) l1
 exact TP.bind (π' := Prod.fst) (mk' := fun v a => (a, cSys v)) (zne l2) (fun d r2 h2 => TP.pure (fun n => rfl)) (fun r cc p hc he => ⟨(r.1, ⟨c.map cCh, d.map cRu, r.2⟩), he, fun n => .inl rfl⟩)
/-- What the program parses. -/
theorem znf {s : ByteArray} {p : Int} (hs : z8q s = some (ts.map tokT, p, 0)) (hl : ts.length ≤ 2000) : z33 s = some (match sAll (s.size : Int) ts with
  | .ok v _ => (cSys v, 0, 0)
  | .er c p => (⟨[], [], []⟩, p, c)
  | .out => (⟨[], [], []⟩, 0, 0)) := by
 rw [zfx, hs]
 show (pAll (PS (s.size : Int) ts 0 0) >>= pFin) = _
 obtain ⟨r, g, q⟩ := zpw (L := (s.size : Int)) hl zlk
 have q : pAll (PS (s.size : Int) ts 0 0) = some r := by
  rcases q 0 with q | ⟨_, q⟩
  ·exact q
  ·omega
 rw [q]
 show pFin r = _
 unfold sAll
 cases hv : sSys (s.size : Int) ts with
 | ok v rest =>
  rw [hv] at g
  have g : r = (PS (s.size : Int) rest 0 0, cSys v) := g
  subst g
  cases rest with
  | nil => rfl
  | cons t rest =>
   unfold pFin
   rw [if_pos (by simp [PS])]
   show (z18 (PS _ _ 0 0) 5 >>= _) = _
   rw [zaz]; rfl
 | er c p =>
  rw [hv] at g
  obtain ⟨hc, he⟩ := g
  have h : r.1.f_e ≠ 0 := z2k hc he
  have h1 : (r.1.f_e != 0) = true := e1 h
  unfold pFin
  rw [zbp h]
  simp only [Option.bind_eq_bind, Option.bind_some, h1, if_true, ite_self]
  rw [he.1, he.2]; rfl
 | out => exact absurd hv zlk
end
end Go.Proofs.YtokjbpmjdcbogaaDoor.Abs.Par
/- The program and the statements' own reader parse every text alike; the law ParseReads. -/
namespace Go.Proofs.YtokjbpmjdcbogaaDoor.Abs.Par
open Go Go.RowKit Wri
set_option linter.unusedVariables false
set_option linter.unusedSimpArgs false
def emp : z5v := ⟨[], [], []⟩
def fin (L : Int) (z : List Tok × Int × Int) : z5v × Int × Int := if z.2.2 != 0 then (emp, z.2.1, z.2.2) else match sAll L z.1 with
 | .ok v _ => (v, 0, 0)
 | .er c p => (emp, p, c)
 | .out => (emp, 0, 0)
/-- What a text says, or the error and its place. -/
def gAll (s : ByteArray) : z5v × Int × Int := fin (s.size : Int) (told s.size (lexS s.data.toList 0))
theorem zku (n : Nat) (z : List Tok × Option (Nat × Int)) : (told n z).1.length ≤ 2000 := by
 unfold told
 split
 ·simp
 ·split
  ·simp
  ·simp; omega
theorem zeh {s : ByteArray} (hs : s.size ≤ 4194304) : z33 s = some (cSys (gAll s).1, (gAll s).2.1, (gAll s).2.2) := by
 have hl := zpx s hs
 have h2 := zku s.size (lexS s.data.toList 0)
 unfold gAll fin
 unfold finT at hl
 generalize told s.size (lexS s.data.toList 0) = z at *
 obtain ⟨ts, p, e⟩ := z
 cases he : (e != 0) with
 | true =>
  rw [zfx, hl]
  simp only [Option.bind_eq_bind, Option.bind_some, he, if_true]
  rfl
 | false =>
  have he' : e = 0 := by simpa using he
  subst he'
  rw [znf hl h2]
  simp only [he, Bool.false_eq_true, if_false]
  cases sAll (s.size : Int) ts <;> rfl
/-! ### Two texts -/
def lexF : Nat → Bs → Nat → List Tok × Option (Nat × Int)
 | 0, _, _ => ([], none)
 | n + 1, l, p => match l with
  | [] => ([], none)
  | b :: r =>
   if isB b then lexF n r (p + 1)
   else match zb2 (b :: r) with
    | .error e => ([], some (p, e))
    | .ok w => let z := lexF n (r.drop (w.len - 1)) (p + w.len); (⟨w.kind, (b :: r).take w.len, w.num, p⟩ :: z.1, z.2)
theorem zng : ∀ n l p, l.length ≤ n → lexS l p = lexF n l p := by
 intro n
 induction n with
 | zero =>
  intro l p h
  have : l = [] := List.eq_nil_of_length_eq_zero (by omega)
  subst this; unfold lexS; rfl
 | succ n ih =>
  intro l p h
  cases l with
  | nil => unfold lexS; rfl
  | cons b r =>
   simp only [List.length_cons] at h
   unfold lexS
   simp only [lexF]
   split
   ·exact ih _ _ (by omega)
   ·cases zb2 (b :: r) with
    | error e => rfl
    | ok w => simp only [ih (r.drop (w.len - 1)) (p + w.len) (by simp; omega)]
def gF (s : ByteArray) : z5v × Int × Int := fin (s.size : Int) (told s.size (lexF s.size s.data.toList 0))
theorem zmx (s : ByteArray) : gAll s = gF s := by
 unfold gAll gF
 rw [zng s.size _ _ (Nat.le_of_eq (by cases s; simp [ByteArray.size]))]
abbrev T1 : ByteArray := ByteArray.mk #[112, 114, 111, 99, 32, 112, 32, 123, 32, 120, 32, 61, 32, 49, 32, 43, 32, 50, 32, 42, 32, 51, 32, 59, 32, 125]
abbrev T2 : ByteArray := ByteArray.mk #[112, 114, 111, 99, 32, 112]
def nE (n : Int) : z3q := ⟨1, n, nB, []⟩
theorem t1_g : gF T1 = (⟨[], [], [⟨ByteArray.mk #[112], [], [.mk 1 (ByteArray.mk #[120]) nB ⟨4, 0, nB, [nE 1, ⟨6, 0, nB, [nE 2, nE 3]⟩]⟩ zC [] [] []]⟩]⟩, 0, 0) := by kernel_rfl
theorem t2_g : gF T2 = (emp, 6, 5) := by kernel_rfl
theorem zkb : z2t = some true := by
 unfold z2t
 rw [zeh (s := T1) (by decide), zeh (s := T2) (by decide), zmx T1, zmx T2, t1_g, t2_g]
 rfl
/-! ### The law -/
end Go.Proofs.YtokjbpmjdcbogaaDoor.Abs.Par
