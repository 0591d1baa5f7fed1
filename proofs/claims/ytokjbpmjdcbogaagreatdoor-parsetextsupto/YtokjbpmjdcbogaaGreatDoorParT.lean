/- What parsing is, over words; the program's reader does it: signs, names, expressions. -/
import Derived.Test.YtokjbpmjdcbogaaGreatDoorPlB
import Derived.KernelRfl
namespace Go.Proofs.YtokjbpmjdcbogaaGreatDoor.Abs.Par
open Go Go.RowKit Wri
set_option linter.unusedVariables false
set_option linter.unusedSimpArgs false
/-- What comes of reading: a value and the words left, an error and its place, or no fuel. -/
inductive Rs (α : Type) where
 | ok (v : α) (ts : List Tok)
 | er (c p : Int)
 | out
def Rs.bind {α β : Type} (x : Rs α) (k : α → List Tok → Rs β) : Rs β := match x with
 | .ok v ts => k v ts
 | .er c p => .er c p
 | .out => .out
section
variable (L : Int)
def sAt : List Tok → Int
 | [] => L
 | t :: _ => (t.at_ : Int)
def z33 (w : ByteArray) : List Tok → Bool
 | [] => false
 | t :: _ => decide (t.kind ≥ 3) && (t.text == w.data.toList)
def sOf (k : Int) : List Tok → Bool
 | [] => false
 | t :: _ => t.kind == k
def z7l (w : ByteArray) (ts : List Tok) : Rs Unit := if z33 w ts then .ok () ts.tail else .er 5 (sAt L ts)
def zai : List Tok → Rs ByteArray
 | [] => .er 5 L
 | t :: r => if t.kind == 1 then .ok ⟨t.text.toArray⟩ r else .er 5 (t.at_ : Int)
def sNum : List Tok → Rs Int
 | [] => .er 5 L
 | t :: r => if t.kind == 2 then .ok (t.num : Int) r else .er 5 (t.at_ : Int)
def z56 : List ByteArray → List Tok → Option Nat
 | [], _ => none
 | w :: l, ts => if z33 w ts then some 0 else (z56 l ts).map (· + 1)
def zE : z1m := ⟨0, 0, ByteArray.mk #[], []⟩
def zC : z7t := ⟨0, zE, zE⟩
def mulS : List ByteArray := [(ByteArray.mk #[42]), (ByteArray.mk #[47]), (ByteArray.mk #[37])]
def addS : List ByteArray := [(ByteArray.mk #[43]), (ByteArray.mk #[45])]
mutual
def z6t : Nat → Nat → List Tok → Rs z1m
 | 0, _, _ => .out
 | f + 1, d, ts =>
  if z33 (ByteArray.mk #[45]) ts then (if d = 24 then .er 6 (sAt L ts) else (z6t f (d + 1) ts.tail).bind fun e r => .ok ⟨3, 0, ByteArray.mk #[], [e]⟩ r)
  else if z33 (ByteArray.mk #[40]) ts then (if d = 24 then .er 6 (sAt L ts) else (zdt f (d + 1) ts.tail).bind fun e r => (z7l L (ByteArray.mk #[41]) r).bind fun _ r' => .ok e r')
  else if sOf 2 ts then (sNum L ts).bind fun n r => .ok ⟨1, n, ByteArray.mk #[], []⟩ r
  else (zai L ts).bind fun s r => .ok ⟨2, 0, s, []⟩ r
def sMul : Nat → Nat → z1m → List Tok → Rs z1m
 | 0, _, _, _ => .out
 | f + 1, d, e, ts => match z56 mulS ts with
  | none => .ok e ts
  | some j => (z6t f d ts.tail).bind fun k r => sMul f d ⟨6 + (j : Int), 0, ByteArray.mk #[], [e, k]⟩ r
def zds : Nat → Nat → List Tok → Rs z1m
 | 0, _, _ => .out
 | f + 1, d, ts => (z6t f d ts).bind fun e r => sMul f d e r
def sAdd : Nat → Nat → z1m → List Tok → Rs z1m
 | 0, _, _, _ => .out
 | f + 1, d, e, ts => match z56 addS ts with
  | none => .ok e ts
  | some j => (zds f d ts.tail).bind fun k r => sAdd f d ⟨4 + (j : Int), 0, ByteArray.mk #[], [e, k]⟩ r
def zdt : Nat → Nat → List Tok → Rs z1m
 | 0, _, _ => .out
 | f + 1, d, ts => (zds f d ts).bind fun e r => sAdd f d e r
end
end
/-! ### The program's reader -/
def PS (L : Int) (ts : List Tok) (d i : Int) : z00 := ⟨ts.map tokT, L, 0, 0, d, i⟩
def EP (a : z00) (c p : Int) : Prop := a.f_e = c ∧ a.f_at = p
section
variable {ρ ρ' β γ : Type} {L d i d' i' : Int} {π : ρ → z00} {mk : β → z00 → ρ} {π' : ρ' → z00} {mk' : γ → z00 → ρ'} {H : Nat}
def GP (L d i : Int) (π : ρ → z00) (mk : β → z00 → ρ) : Rs β → ρ → Prop
 | .ok v ts, r => r = mk v (PS L ts d i)
 | .er c p, r => c ≠ 0 ∧ EP (π r) c p
 | .out, _ => False
def TP (L d i : Int) (π : ρ → z00) (mk : β → z00 → ρ) (H : Nat) (x : Nat → Option ρ) (o : Rs β) : Prop := o ≠ .out → ∃ r, GP L d i π mk o r ∧ ∀ n, Sn n H (x n) r
theorem TP.bind {x : Nat → Option ρ} {o : Rs β} {k : Nat → ρ → Option ρ'} {k' : β → List Tok → Rs γ} (h : TP L d i π mk H x o) (hok : ∀ v ts, o = .ok v ts → TP L d' i' π' mk' H (fun n => k n (mk v (PS L ts d i))) (k' v ts))
  (her : ∀ r c p, c ≠ 0 → EP (π r) c p → ∃ r', EP (π' r') c p ∧ ∀ n, Sn n H (k n r) r') : TP L d' i' π' mk' H (fun n => x n >>= k n) (o.bind k') := by
 intro hne
 cases o with
 | ok v ts =>
  obtain ⟨r, hr, hs⟩ := h (by simp)
  have hr : r = mk v (PS L ts d i) := hr
  subst hr
  obtain ⟨r', g', s'⟩ := hok v ts rfl hne
  exact ⟨r', g', fun n => Sn.bind (f := k n) (hs n) (s' n)⟩
 | er c p =>
  obtain ⟨r, ⟨hc, he⟩, hs⟩ := h (by simp)
  obtain ⟨r', he', s'⟩ := her r c p hc he
  exact ⟨r', ⟨hc, he'⟩, fun n => Sn.bind (f := k n) (hs n) (s' n)⟩
 | out => exact absurd rfl hne
theorem TP.pure {x : Nat → Option ρ} {v : β} {ts : List Tok} (e : ∀ n, x n = some (mk v (PS L ts d i))) : TP L d i π mk H x (.ok v ts) := fun _ => ⟨_, rfl, fun n => .inl (e n)⟩
theorem TP.err {x : Nat → Option ρ} {r : ρ} {c p : Int} (e : ∀ n, x n = some r) (hc : c ≠ 0) (hp : EP (π r) c p) : TP L d i π mk H x (.er c p) := fun _ => ⟨r, ⟨hc, hp⟩, fun n => .inl (e n)⟩
theorem TP.up {F x : Nat → Option ρ} {o : Rs β} (h0 : F 0 = none) (h1 : ∀ n, F (n + 1) = x n) (h : TP L d i π mk H x o) : TP L d i π mk (H + 1) F o := by
 intro hne
 obtain ⟨r, g, s⟩ := h hne
 refine ⟨r, g, fun n => ?_⟩
 cases n with
 | zero => exact .inr ⟨h0, by omega⟩
 | succ n => rw [h1]; exact (s n).up
theorem TP.mono {x : Nat → Option ρ} {o : Rs β} {H' : Nat} (h : TP L d i π mk H x o) (hh : H ≤ H') : TP L d i π mk H' x o := fun hne => by
 obtain ⟨r, g, s⟩ := h hne
 exact ⟨r, g, fun n => (s n).mono hh⟩
theorem TP.eq {x y : Nat → Option ρ} {o : Rs β} (h : TP L d i π mk H y o) (e : ∀ n, x n = y n) : TP L d i π mk H x o := by
 rw [show x = y from funext e]; exact h
theorem TP.unf {x : Nat → Option ρ} {o : Rs β} (h : TP L d i π mk H x o) : TP L d i π mk 0 (fun _ => unf x) o := fun hne => by
 obtain ⟨r, g, s⟩ := h hne
 exact ⟨r, g, fun n => .inl (Sn.unf s)⟩
end
theorem zh1 {ρ : Type} {P : ρ → Prop} {x : Nat → Option ρ} {r : ρ} {H : Nat} (e : ∀ n, Sn n H (x n) r) (p : P r) : ∃ r, P r ∧ ∀ n, Sn n H (x n) r := ⟨r, p, e⟩
/-! ### Signs and names -/
theorem zmx (t : Tok) : (tokT t).Text.data.toList = t.text := by simp [tokT]
theorem idx0 {α : Type} (x : α) (l : List α) : idx (x :: l) 0 = some x := rfl
theorem z02z {α : Type} (x : α) (l : List α) (h : l.length ≤ 4611686018427387904) : lsub (x :: l) 1 ((x :: l).length : Int) = some l := by
 unfold lsub
 rw [if_pos ⟨by omega, by simp only [List.length_cons]; omega, by omega⟩]
 simp
section
variable {L d i : Int} {ts : List Tok}
theorem zfh (w : ByteArray) : z30 (PS L ts d i) w = some (z33 w ts) := by
 cases ts with
 | nil => rfl
 | cons t r =>
  unfold z30 PS z33
  have h1 : decide (((tokT t :: r.map tokT).length : Int) > 0) = true := by simp
  have e : (tokT t).Kind = t.kind := rfl
  simp only [beq_self_eq_true, if_true, List.map_cons, h1, idx0, Option.bind_eq_bind, Option.bind_some, Go.ByteArray.toList_eq, zmx, e]
  cases decide (t.kind ≥ 3) <;> simp
theorem of_P (k : Int) : z5j (PS L ts d i) k = some (sOf k ts) := by
 cases ts with
 | nil => rfl
 | cons t r =>
  unfold z5j PS sOf
  have h1 : decide (((tokT t :: r.map tokT).length : Int) > 0) = true := by simp
  simp only [beq_self_eq_true, if_true, List.map_cons, h1, idx0, Option.bind_eq_bind, Option.bind_some]
  rfl
theorem zjn (c : Int) : z29 (PS L ts d i) c = some ⟨ts.map tokT, L, c, sAt L ts, d, i⟩ := by
 cases ts with
 | nil => rfl
 | cons t r =>
  unfold z29 PS sAt
  have h1 : decide (((tokT t :: r.map tokT).length : Int) > 0) = true := by simp
  simp only [zq9, Bool.false_eq_true, if_false, if_true, List.map_cons, h1, idx0, Option.bind_eq_bind, Option.bind_some]
  rfl
theorem z8o (hl : ts.length ≤ 2000) (w : ByteArray) : z0g (PS L ts d i) w = some (if z33 w ts then (PS L ts.tail d i, true) else (PS L ts d i, false)) := by
 unfold z0g
 rw [zfh]
 cases hs : z33 w ts with
 | false => rfl
 | true =>
  cases ts with
  | nil => cases hs
  | cons t r =>
   simp only [Option.bind_eq_bind, Option.bind_some, Bool.not_true, Bool.false_eq_true, if_false, if_true, List.tail_cons]
   have : lsub (PS L (t :: r) d i).f_l 1 ((PS L (t :: r) d i).f_l.length : Int) = some (r.map tokT) := z02z (tokT t) (r.map tokT) (by simp at hl ⊢; omega)
   rw [this]; rfl
theorem zqf (hl : ts.length ≤ 2000) (w : ByteArray) : z05 (PS L ts d i) w = some (if z33 w ts then PS L ts.tail d i else ⟨ts.map tokT, L, 5, sAt L ts, d, i⟩) := by
 unfold z05
 rw [z8o hl]
 cases hs : z33 w ts with
 | false => simp [zjn]
 | true => simp
abbrev mkM : Unit → z00 → z00 := fun _ a => a
abbrev mkV {α : Type} : α → z00 → z00 × α := fun v a => (a, v)
theorem z74 {H : Nat} (hl : ts.length ≤ 2000) (w : ByteArray) : TP L d i id mkM H (fun _ => z05 (PS L ts d i) w) (z7l L w ts) := by
 unfold z7l
 cases hs : z33 w ts with
 | true => exact TP.pure (fun n => by rw [zqf hl, hs]; rfl)
 | false => exact TP.err (r := ⟨ts.map tokT, L, 5, sAt L ts, d, i⟩) (fun n => by rw [zqf hl, hs]; rfl) (by decide) ⟨rfl, rfl⟩
theorem zkk (hl : ts.length ≤ 2000) (k : Int) : z5d (PS L ts d i) k = match ts with
  | [] => some (⟨[], L, 5, L, d, i⟩, ⟨0, ByteArray.mk #[], 0, 0⟩)
  | t :: r => if t.kind == k then some (PS L r d i, tokT t) else some (⟨(t :: r).map tokT, L, 5, (t.at_ : Int), d, i⟩, ⟨0, ByteArray.mk #[], 0, 0⟩) := by
 unfold z5d
 rw [of_P]
 cases ts with
 | nil => rfl
 | cons t r =>
  simp only [sOf]
  cases hk : (t.kind == k) with
  | false => simp only [Option.bind_eq_bind, Option.bind_some, Bool.not_false, if_true, zjn, Bool.false_eq_true, if_false]; rfl
  | true =>
   have : lsub (PS L (t :: r) d i).f_l 1 ((PS L (t :: r) d i).f_l.length : Int) = some (r.map tokT) := z02z (tokT t) (r.map tokT) (by simp at hl ⊢; omega)
   have h0 : idx (PS L (t :: r) d i).f_l 0 = some (tokT t) := rfl
   simp only [Option.bind_eq_bind, Option.bind_some, Bool.not_true, Bool.false_eq_true, if_false, if_true, this, h0]
   rfl
theorem zay {H : Nat} (hl : ts.length ≤ 2000) : TP L d i Prod.fst mkV H (fun _ => z0f (PS L ts d i)) (zai L ts) := by
 unfold z0f
 cases ts with
 | nil => exact TP.err (r := (⟨[], L, 5, L, d, i⟩, ByteArray.mk #[])) (fun n => by rw [zkk hl]; rfl) (by decide) ⟨rfl, rfl⟩
 | cons t r =>
  simp only [zai]
  cases hk : (t.kind == 1) with
  | true => exact TP.pure (fun n => by rw [zkk hl]; simp only [hk, if_true]; rfl)
  | false => exact TP.err (r := (⟨(t :: r).map tokT, L, 5, (t.at_ : Int), d, i⟩, ByteArray.mk #[])) (fun n => by rw [zkk hl]; simp only [hk, Bool.false_eq_true, if_false]; rfl) (by decide) ⟨rfl, rfl⟩
theorem zx0 {H : Nat} (hl : ts.length ≤ 2000) : TP L d i Prod.fst mkV H (fun _ => z1z (PS L ts d i)) (sNum L ts) := by
 unfold z1z
 cases ts with
 | nil => exact TP.err (r := (⟨[], L, 5, L, d, i⟩, 0)) (fun n => by rw [zkk hl]; rfl) (by decide) ⟨rfl, rfl⟩
 | cons t r =>
  simp only [sNum]
  cases hk : (t.kind == 2) with
  | true => exact TP.pure (fun n => by rw [zkk hl]; simp only [hk, if_true]; rfl)
  | false => exact TP.err (r := (⟨(t :: r).map tokT, L, 5, (t.at_ : Int), d, i⟩, 0)) (fun n => by rw [zkk hl]; simp only [hk, Bool.false_eq_true, if_false]; rfl) (by decide) ⟨rfl, rfl⟩
def tp6 (a : z00) : List z0e × Int × Int × Int × Int × Int := (a.f_l, a.f_end, a.f_e, a.f_at, a.f_deep, a.f_in)
theorem zx1 (hl : ts.length ≤ 2000) (ws : List ByteArray) (hw : ws.length ≤ 1000) : ∀ (m : List ByteArray) (k : Nat), ws.drop k = m → k ≤ ws.length →
  iter (z0l ws) ((k : Int), tp6 (PS L ts d i)) = some (match z56 m ts with | some j => .inl (PS L ts.tail d i, ((k + j : Nat) : Int)) | none => .inr (tp6 (PS L ts d i))) := by
 intro m
 induction m with
 | nil =>
  intro k hd hk
  have : k = ws.length := by have := List.drop_eq_nil_iff.1 hd; omega
  subst this
  refine z6r ?_
  unfold z0l
  rw [if_neg (by simp)]
  rfl
 | cons w m ih =>
  intro k hd hk
  have hlt : k < ws.length := by
   refine Nat.lt_of_not_le fun h => ?_
   rw [List.drop_of_length_le h] at hd; cases hd
  rw [List.drop_eq_getElem_cons hlt] at hd
  injection hd with h1 h2
  have hi : idx ws (k : Int) = some w := by rw [zfg hlt, h1]
  have hs : z0g (z00.mk (tp6 (PS L ts d i)).1 (tp6 (PS L ts d i)).2.1 (tp6 (PS L ts d i)).2.2.1 (tp6 (PS L ts d i)).2.2.2.1 (tp6 (PS L ts d i)).2.2.2.2.1 (tp6 (PS L ts d i)).2.2.2.2.2) w = _ := z8o hl w
  have hbody : z0l ws ((k : Int), tp6 (PS L ts d i)) = some (if z33 w ts then .inr (.inl (PS L ts.tail d i, (k : Int))) else .inl (((k + 1 : Nat) : Int), tp6 (PS L ts d i))) := by
   unfold z0l
   rw [if_pos (by simpa using hlt)]
   simp only [hi, Option.bind_eq_bind, Option.bind_some, hs, zwy (i := k) (by omega)]
   cases z33 w ts <;> rfl
  simp only [z56]
  cases hsw : z33 w ts with
  | true =>
   rw [hsw, if_pos rfl] at hbody
   rw [z6r hbody]; simp
  | false =>
   rw [hsw, if_neg (by decide)] at hbody
   rw [zeh hbody, ih (k + 1) h2 hlt]
   cases z56 m ts with
   | none => simp
   | some j => simp; omega
theorem zlh (hl : ts.length ≤ 2000) (ws : List ByteArray) (hw : ws.length ≤ 1000) : z1o (PS L ts d i) ws = some (match z56 ws ts with | some j => (PS L ts.tail d i, (j : Int)) | none => (PS L ts d i, -1)) := by
 have h := zx1 (L := L) (d := d) (i := i) hl ws hw ws 0 rfl (by omega)
 unfold z1o z26
 have e : (((0 : Nat) : Int), tp6 (PS L ts d i)) = (0, (PS L ts d i).f_l, (PS L ts d i).f_end, (PS L ts d i).f_e, (PS L ts d i).f_at, (PS L ts d i).f_deep, (PS L ts d i).f_in) := rfl
 rw [← e, h]
 cases z56 ws ts with
 | none => rfl
 | some j => simp
end
/-! ### Where there is an error, nothing is done -/
section
variable {a : z00} (h : a.f_e ≠ 0)
include h
theorem e0 : (a.f_e == 0) = false := by simpa using h
theorem e1 : (a.f_e != 0) = true := by simpa using h
theorem zv2 (w : ByteArray) : z30 a w = some false := by unfold z30; rw [if_neg (by simp [h])]
theorem of_e (k : Int) : z5j a k = some false := by unfold z5j; rw [if_neg (by simp [h])]
theorem zkl (c : Int) : z29 a c = some a := by unfold z29; rw [if_pos (by simp [h])]
theorem zei (w : ByteArray) : z0g a w = some (a, false) := by unfold z0g; rw [zv2 h]; rfl
theorem zbw (w : ByteArray) : z05 a w = some a := by
 unfold z05; rw [zei h]
 simp only [Option.bind_eq_bind, Option.bind_some, Bool.not_false, if_true, zkl h]
theorem zye (k : Int) : z5d a k = some (a, ⟨0, ByteArray.mk #[], 0, 0⟩) := by
 unfold z5d; rw [of_e h]
 simp only [Option.bind_eq_bind, Option.bind_some, Bool.not_false, if_true, zkl h]
theorem zkm : z0f a = some (a, ByteArray.mk #[]) := by unfold z0f; rw [zye h]; rfl
theorem z030 : z1z a = some (a, 0) := by unfold z1z; rw [zye h]; rfl
theorem zv3 (ws : List ByteArray) (hw : ws.length ≤ 1000) : z1o a ws = some (a, -1) := by
 have it : ∀ (m : List ByteArray) (k : Nat), ws.drop k = m → k ≤ ws.length → iter (z0l ws) ((k : Int), tp6 a) = some (.inr (tp6 a)) := by
  intro m
  induction m with
  | nil =>
   intro k hd hk
   have : k = ws.length := by have := List.drop_eq_nil_iff.1 hd; omega
   subst this
   refine z6r ?_
   unfold z0l
   rw [if_neg (by simp)]
   try rfl
  | cons w m ih =>
   intro k hd hk
   have hlt : k < ws.length := by
    refine Nat.lt_of_not_le fun h => ?_
    rw [List.drop_of_length_le h] at hd; cases hd
   rw [List.drop_eq_getElem_cons hlt] at hd
   injection hd with h1 h2
   have hi : idx ws (k : Int) = some w := by rw [zfg hlt, h1]
   have hs : z0g (z00.mk (tp6 a).1 (tp6 a).2.1 (tp6 a).2.2.1 (tp6 a).2.2.2.1 (tp6 a).2.2.2.2.1 (tp6 a).2.2.2.2.2) w = _ := zei h w
   rw [zeh (y := (((k + 1 : Nat) : Int), tp6 a))]
   ·exact ih (k + 1) h2 hlt
   ·unfold z0l
    rw [if_pos (by simpa using hlt)]
    simp only [hi, Option.bind_eq_bind, Option.bind_some, hs, zwy (i := k) (by omega)]
    rfl
 unfold z1o z26
 have e : (((0 : Nat) : Int), tp6 a) = (0, a.f_l, a.f_end, a.f_e, a.f_at, a.f_deep, a.f_in) := rfl
 rw [← e, it ws 0 rfl (by omega)]
 try rfl
end
end Go.Proofs.YtokjbpmjdcbogaaGreatDoor.Abs.Par
/- The program's reader reads expressions as parsing does. -/
namespace Go.Proofs.YtokjbpmjdcbogaaGreatDoor.Abs.Par
open Go Go.RowKit Wri
set_option linter.unusedVariables false
set_option linter.unusedSimpArgs false
/-! ### What is left are the last words -/
theorem bind_ok {α β : Type} {o : Rs α} {k : α → List Tok → Rs β} {v : β} {r : List Tok} (h : o.bind k = .ok v r) : ∃ w s, o = .ok w s ∧ k w s = .ok v r := by
 cases o with
 | ok w s => exact ⟨w, s, rfl, h⟩
 | er c p => cases h
 | out => cases h
section
variable {L : Int}
theorem z5k {w : ByteArray} {ts : List Tok} (h : z33 w ts = true) : ts.tail.length < ts.length := by
 cases ts with
 | nil => cases h
 | cons t r => simp
theorem z93 {ts : List Tok} : ∀ {ws : List ByteArray} {j : Nat}, z56 ws ts = some j → ts.tail.length < ts.length ∧ j < ws.length
 | [], j, h => by cases h
 | w :: l, j, h => by
  simp only [z56] at h
  split at h
  ·rename_i hs; injection h with h; subst h; exact ⟨z5k hs, by simp⟩
  ·cases hw : z56 l ts with
   | none => rw [hw] at h; cases h
   | some k =>
    rw [hw] at h; injection h with h
    have := z93 hw
    exact ⟨this.1, by rw [← h]; simp; omega⟩
theorem z2o {w : ByteArray} {ts r : List Tok} {v : Unit} (h : z7l L w ts = .ok v r) : r <:+ ts ∧ r.length < ts.length := by
 unfold z7l at h
 split at h
 ·rename_i hs; injection h with _ h; subst h; exact ⟨List.tail_suffix ts, z5k hs⟩
 ·cases h
theorem z3q {ts r : List Tok} {v : ByteArray} (h : zai L ts = .ok v r) : r <:+ ts ∧ r.length < ts.length := by
 cases ts with
 | nil => cases h
 | cons t s =>
  simp only [zai] at h
  split at h
  ·injection h with _ h; subst h; exact ⟨List.suffix_cons t s, by simp⟩
  ·cases h
theorem zej {ts r : List Tok} {v : Int} (h : sNum L ts = .ok v r) : r <:+ ts ∧ r.length < ts.length := by
 cases ts with
 | nil => cases h
 | cons t s =>
  simp only [sNum] at h
  split at h
  ·injection h with _ h; subst h; exact ⟨List.suffix_cons t s, by simp⟩
  ·cases h
structure Suf (L : Int) (f : Nat) : Prop where
 fac : ∀ d ts v r, z6t L f d ts = .ok v r → r <:+ ts
 mul : ∀ d e ts v r, sMul L f d e ts = .ok v r → r <:+ ts
 term : ∀ d ts v r, zds L f d ts = .ok v r → r <:+ ts
 add : ∀ d e ts v r, sAdd L f d e ts = .ok v r → r <:+ ts
 exp : ∀ d ts v r, zdt L f d ts = .ok v r → r <:+ ts
theorem suf (L : Int) : ∀ f, Suf L f := by
 intro f
 induction f with
 | zero => exact ⟨fun d ts v r h => by simp [z6t] at h, fun d e ts v r h => by simp [sMul] at h, fun d ts v r h => by simp [zds] at h, fun d e ts v r h => by simp [sAdd] at h, fun d ts v r h => by simp [zdt] at h⟩
 | succ f ih =>
  refine ⟨fun d ts v r h => ?_, fun d e ts v r h => ?_, fun d ts v r h => ?_, fun d e ts v r h => ?_, fun d ts v r h => ?_⟩
  ·simp only [z6t] at h
   split at h
   ·split at h
    ·cases h
    ·obtain ⟨w, s, h1, h2⟩ := bind_ok h
     injection h2 with _ h2; subst h2
     exact (ih.fac _ _ _ _ h1).trans (List.tail_suffix ts)
   ·split at h
    ·split at h
     ·cases h
     ·obtain ⟨w, s, h1, h2⟩ := bind_ok h
      obtain ⟨w', s', h3, h4⟩ := bind_ok h2
      injection h4 with _ h4; subst h4
      exact ((z2o h3).1.trans (ih.exp _ _ _ _ h1)).trans (List.tail_suffix ts)
    ·split at h
     ·obtain ⟨w, s, h1, h2⟩ := bind_ok h
      injection h2 with _ h2; subst h2
      exact (zej h1).1
     ·obtain ⟨w, s, h1, h2⟩ := bind_ok h
      injection h2 with _ h2; subst h2
      exact (z3q h1).1
  ·simp only [sMul] at h
   split at h
   ·injection h with _ h; subst h; exact List.suffix_refl _
   ·obtain ⟨w, s, h1, h2⟩ := bind_ok h
    exact ((ih.mul _ _ _ _ _ h2).trans (ih.fac _ _ _ _ h1)).trans (List.tail_suffix ts)
  ·simp only [zds] at h
   obtain ⟨w, s, h1, h2⟩ := bind_ok h
   exact (ih.mul _ _ _ _ _ h2).trans (ih.fac _ _ _ _ h1)
  ·simp only [sAdd] at h
   split at h
   ·injection h with _ h; subst h; exact List.suffix_refl _
   ·obtain ⟨w, s, h1, h2⟩ := bind_ok h
    exact ((ih.add _ _ _ _ _ h2).trans (ih.term _ _ _ _ h1)).trans (List.tail_suffix ts)
  ·simp only [zdt] at h
   obtain ⟨w, s, h1, h2⟩ := bind_ok h
   exact (ih.add _ _ _ _ _ h2).trans (ih.term _ _ _ _ h1)
end
/-! ### Errors -/
def zA : z04 := ⟨0, 0, ByteArray.mk #[], []⟩
def vA : z04 := ⟨2, 0, ByteArray.mk #[], []⟩
def tpE (a : z00) (e : z04) : List z0e × Int × Int × Int × Int × Int × Int × Int × ByteArray × List z04 := (a.f_l, a.f_end, a.f_e, a.f_at, a.f_deep, a.f_in, e.Kind, e.Num, e.Name, e.Kids)
noncomputable def MB (n : Nat) := z2a (z1a n) (z09 n) (z15 n) (z08 n) (z0h n) (z17 n) (z1b n) mulS 6
noncomputable def AB (n : Nat) := z2k (z1a n) (z09 n) (z15 n) (z08 n) (z0h n) (z17 n) (z1b n) addS 4
abbrev E10 := List z0e × Int × Int × Int × Int × Int × Int × Int × ByteArray × List z04
def finE (j1 : E10) : Option (z00 × z04) := some ((z00.mk j1.1 j1.2.1 j1.2.2.1 j1.2.2.2.1 j1.2.2.2.2.1 j1.2.2.2.2.2.1), (z04.mk j1.2.2.2.2.2.2.1 j1.2.2.2.2.2.2.2.1 j1.2.2.2.2.2.2.2.2.1 j1.2.2.2.2.2.2.2.2.2))
noncomputable def MF (n : Nat) (a : z00) (e : z04) : Option (z00 × z04) := iter (MB n) (tpE a e) >>= Sum.elim (fun _ => none) finE
noncomputable def AF (n : Nat) (a : z00) (e : z04) : Option (z00 × z04) := iter (AB n) (tpE a e) >>= Sum.elim (fun _ => none) finE
section
variable {a : z00} (h : a.f_e ≠ 0)
include h
theorem MF_e (n : Nat) (e : z04) : MF n a e = some (a, e) := by
 obtain ⟨k, m, s, l⟩ := e
 unfold MF
 rw [z6r (r := .inr (tpE a ⟨k, m, s, l⟩)) (by
  unfold MB z2a
  rw [if_neg (by simpa [tpE] using h)])]
 rfl
theorem AF_e (n : Nat) (e : z04) : AF n a e = some (a, e) := by
 obtain ⟨k, m, s, l⟩ := e
 unfold AF
 rw [z6r (r := .inr (tpE a ⟨k, m, s, l⟩)) (by
  unfold AB z2k
  rw [if_neg (by simpa [tpE] using h)])]
 rfl
theorem zx2 (n : Nat) : Sn n 1 (z0h n a) (a, vA) := by
 cases n with
 | zero => exact .inr ⟨rfl, by omega⟩
 | succ n =>
  refine .inl ?_
  simp only [z0h, zv2 h, of_e h, zkm h, Option.bind_eq_bind, Option.bind_some, Bool.false_eq_true, if_false]
  rfl
theorem zx3 (n : Nat) : Sn n 2 (z08 n a mulS 6) (a, vA) := by
 cases n with
 | zero => exact .inr ⟨rfl, by omega⟩
 | succ n =>
  simp only [z08]
  exact (Sn.bind (f := fun v1 => MF n v1.1 v1.2) (zx2 h n) (.inl (MF_e h n vA))).up
theorem z031 (n : Nat) : Sn n 3 (z15 n a) (a, vA) := by
 cases n with
 | zero => exact .inr ⟨rfl, by omega⟩
 | succ n =>
  simp only [z15]
  exact (Sn.bind (f := fun v1 => some (v1.1, v1.2)) (zx3 h n) (.inl rfl)).up
theorem zx4 (n : Nat) : Sn n 4 (z09 n a addS 4) (a, vA) := by
 cases n with
 | zero => exact .inr ⟨rfl, by omega⟩
 | succ n =>
  simp only [z09]
  exact (Sn.bind (f := fun v1 => AF n v1.1 v1.2) (z031 h n) (.inl (AF_e h n vA))).up
theorem z00h (n : Nat) : Sn n 5 (z1a n a) (a, vA) := by
 cases n with
 | zero => exact .inr ⟨rfl, by omega⟩
 | succ n =>
  simp only [z1a]
  exact (Sn.bind (f := fun v1 => some (v1.1, v1.2)) (zx4 h n) (.inl rfl)).up
theorem z032 : z4y a = some (a, vA) := Sn.unf fun n => z00h h n
end
/-! ### Without -/
section
variable {L i : Int} {ts : List Tok} {d : Int}
theorem z033 (hl : ts.length ≤ 2000) (n : Nat) (e : z04) : MF n (PS L ts d i) e = match z56 mulS ts with
  | none => some (PS L ts d i, e)
  | some j => z0h n (PS L ts.tail d i) >>= fun v => MF n v.1 ⟨6 + (j : Int), 0, ByteArray.mk #[], [e, v.2]⟩ := by
 obtain ⟨ek, em, es, el⟩ := e
 have hw := zlh (L := L) (d := d) (i := i) hl mulS (by decide)
 have hb : MB n (tpE (PS L ts d i) ⟨ek, em, es, el⟩) = match z56 mulS ts with
   | none => some (.inr (.inr (tpE (PS L ts d i) ⟨ek, em, es, el⟩)))
   | some j => z0h n (PS L ts.tail d i) >>= fun v => some (.inl (tpE v.1 ⟨6 + (j : Int), 0, ByteArray.mk #[], [⟨ek, em, es, el⟩, v.2]⟩)) := by
  unfold MB z2a
  rw [if_pos (by rfl)]
  show (z1o (PS L ts d i) mulS).bind _ = _
  rw [hw]
  cases hs : z56 mulS ts with
  | none => simp only [Option.bind_some]; rfl
  | some j =>
   have hj := (z93 hs).2
   have hj : j < 3 := hj
   have h1 : decide (((j : Nat) : Int) < 0) = false := by simp
   have h2 : IntKind.i64.wrap (6 + (j : Int)) = 6 + (j : Int) := w64 (by omega) (by omega)
   simp only [Option.bind_some, h1, Bool.false_eq_true, if_false, h2]
   rfl
 unfold MF
 rw [zbl, hb]
 cases hs : z56 mulS ts with
 | none => rfl
 | some j =>
  simp only [Option.bind_eq_bind, Option.bind_assoc, Option.bind_some]
theorem z034 (hl : ts.length ≤ 2000) (n : Nat) (e : z04) : AF n (PS L ts d i) e = match z56 addS ts with
  | none => some (PS L ts d i, e)
  | some j => z15 n (PS L ts.tail d i) >>= fun v => AF n v.1 ⟨4 + (j : Int), 0, ByteArray.mk #[], [e, v.2]⟩ := by
 obtain ⟨ek, em, es, el⟩ := e
 have hw := zlh (L := L) (d := d) (i := i) hl addS (by decide)
 have hb : AB n (tpE (PS L ts d i) ⟨ek, em, es, el⟩) = match z56 addS ts with
   | none => some (.inr (.inr (tpE (PS L ts d i) ⟨ek, em, es, el⟩)))
   | some j => z15 n (PS L ts.tail d i) >>= fun v => some (.inl (tpE v.1 ⟨4 + (j : Int), 0, ByteArray.mk #[], [⟨ek, em, es, el⟩, v.2]⟩)) := by
  unfold AB z2k
  rw [if_pos (by rfl)]
  show (z1o (PS L ts d i) addS).bind _ = _
  rw [hw]
  cases hs : z56 addS ts with
  | none => simp only [Option.bind_some]; rfl
  | some j =>
   have hj := (z93 hs).2
   have hj : j < 2 := hj
   have h1 : decide (((j : Nat) : Int) < 0) = false := by simp
   have h2 : IntKind.i64.wrap (4 + (j : Int)) = 4 + (j : Int) := w64 (by omega) (by omega)
   simp only [Option.bind_some, h1, Bool.false_eq_true, if_false, h2]
   rfl
 unfold AF
 rw [zbl, hb]
 cases hs : z56 addS ts with
 | none => rfl
 | some j =>
  simp only [Option.bind_eq_bind, Option.bind_assoc, Option.bind_some]
end
abbrev mkE : z1m → z00 → z00 × z04 := fun v a => (a, cE v)
structure PX (L i : Int) (f : Nat) : Prop where
 fac : ∀ (d : Nat) ts, d ≤ 24 → ts.length ≤ 2000 → TP L d i Prod.fst mkE (2 * f) (fun n => z0h n (PS L ts d i)) (z6t L f d ts)
 mul : ∀ (d : Nat) e ts, d ≤ 24 → ts.length ≤ 2000 → TP L d i Prod.fst mkE (2 * f) (fun n => MF n (PS L ts d i) (cE e)) (sMul L f d e ts)
 term : ∀ (d : Nat) ts, d ≤ 24 → ts.length ≤ 2000 → TP L d i Prod.fst mkE (2 * f) (fun n => z15 n (PS L ts d i)) (zds L f d ts)
 add : ∀ (d : Nat) e ts, d ≤ 24 → ts.length ≤ 2000 → TP L d i Prod.fst mkE (2 * f) (fun n => AF n (PS L ts d i) (cE e)) (sAdd L f d e ts)
 exp : ∀ (d : Nat) ts, d ≤ 24 → ts.length ≤ 2000 → TP L d i Prod.fst mkE (2 * f) (fun n => z1a n (PS L ts d i)) (zdt L f d ts)
theorem zek {ρ β : Type} {L d i : Int} {π : ρ → z00} {mk : β → z00 → ρ} {H : Nat} {x : Nat → Option ρ} : TP L d i π mk H x (.out : Rs β) := fun h => absurd rfl h
theorem zik {α β : Type} (x : Option (α × β)) : (x.bind fun v => some (v.1, v.2)) = x := by cases x <;> rfl
theorem z4o {a : z00} {c p : Int} (hc : c ≠ 0) (h : EP a c p) : a.f_e ≠ 0 := by rw [h.1]; exact hc
theorem zli {L i : Int} {ts : List Tok} {d : Nat} (hd : d ≤ 24) : z64 (PS L ts d i) = some (if d = 24 then (⟨ts.map tokT, L, 6, sAt L ts, d, i⟩, false) else (PS L ts ((d + 1 : Nat) : Int) i, true)) := by
 unfold z64
 by_cases h : d = 24
 ·subst h
  rw [if_pos (by rfl), zjn]; rfl
 ·have : ((PS L ts (d : Int) i).f_deep == 24) = false := by
   show ((d : Int) == 24) = false
   simp; omega
  rw [this, if_neg (by decide), if_neg h]
  have hw : IntKind.i64.wrap ((d : Int) + 1) = ((d + 1 : Nat) : Int) := by rw [w64 (by omega) (by omega)]; omega
  show some ((⟨ts.map tokT, L, 0, 0, IntKind.i64.wrap ((d : Int) + 1), i⟩ : z00), true) = _
  rw [hw]; rfl
theorem px (L i : Int) : ∀ f, PX L i f := by
 intro f
 induction f with
 | zero => exact ⟨fun d ts _ _ => by simp only [z6t]; exact zek, fun d e ts _ _ => by simp only [sMul]; exact zek, fun d ts _ _ => by simp only [zds]; exact zek, fun d e ts _ _ => by simp only [sAdd]; exact zek, fun d ts _ _ => by simp only [zdt]; exact zek⟩
 | succ f ih =>
  have sf := suf L f
  refine ⟨fun d ts hd hl => ?_, fun d e ts hd hl => ?_, fun d ts hd hl => ?_, fun d e ts hd hl => ?_, fun d ts hd hl => ?_⟩
  ·-- a factor
   simp only [z6t]
   cases h1 : z33 (ByteArray.mk #[45]) ts with
   | true =>
    have hlt : ts.tail.length ≤ 2000 := by have := z5k h1; omega
    simp only [if_true]
    refine TP.up (H := 2 * f + 1) (x := fun n => z17 n (PS L ts d i)) rfl (fun n => by simp only [z0h, zfh, h1, Option.bind_eq_bind, Option.bind_some, if_true, zik]) ?_
    by_cases h24 : d = 24
    ·rw [if_pos h24]
     refine TP.up (H := 2 * f) (x := fun _ => some (⟨ts.map tokT, L, 6, sAt L ts, d, i⟩, zA)) rfl (fun n => by simp only [z17, zli hd, if_pos h24, Option.bind_eq_bind, Option.bind_some]; rfl) ?_
     exact TP.err (fun n => rfl) (by decide) ⟨rfl, rfl⟩
    ·rw [if_neg h24]
     refine TP.up (H := 2 * f) (x := fun n => z0h n (PS L ts.tail ((d + 1 : Nat) : Int) i) >>= fun v3 => some ((z00.mk v3.1.f_l v3.1.f_end v3.1.f_e v3.1.f_at (IntKind.i64.wrap (v3.1.f_deep - 1)) v3.1.f_in), (z04.mk 3 0 (ByteArray.mk #[]) [v3.2]))) rfl (fun n => by
      simp only [z17, zli hd, if_neg h24, Option.bind_eq_bind, Option.bind_some, Bool.not_true, Bool.false_eq_true, if_false, zqf hl, h1, if_true]) ?_
     refine TP.bind (ih.fac (d + 1) ts.tail (by omega) hlt) (fun v r hv => TP.pure (fun n => ?_)) (fun r c p hc he => zh1 (fun n => .inl rfl) ⟨he.1, he.2⟩)
     have hw : IntKind.i64.wrap (((d + 1 : Nat) : Int) - 1) = (d : Int) := by rw [w64 (by omega) (by omega)]; omega
     show some ((⟨r.map tokT, L, 0, 0, IntKind.i64.wrap (((d + 1 : Nat) : Int) - 1), i⟩ : z00), _) = _
     rw [hw]
     simp only [mkE, cE, cEs]; rfl
   | false =>
    simp only [Bool.false_eq_true, if_false]
    cases h2 : z33 (ByteArray.mk #[40]) ts with
    | true =>
     have hlt : ts.tail.length ≤ 2000 := by have := z5k h2; omega
     simp only [if_true]
     refine TP.up (H := 2 * f + 1) (x := fun n => z1b n (PS L ts d i)) rfl (fun n => by simp only [z0h, zfh, h1, h2, Option.bind_eq_bind, Option.bind_some, if_true, Bool.false_eq_true, if_false, zik]) ?_
     by_cases h24 : d = 24
     ·rw [if_pos h24]
      refine TP.up (H := 2 * f) (x := fun _ => some (⟨ts.map tokT, L, 6, sAt L ts, d, i⟩, zA)) rfl (fun n => by simp only [z1b, zli hd, if_pos h24, Option.bind_eq_bind, Option.bind_some]; rfl) ?_
      exact TP.err (fun n => rfl) (by decide) ⟨rfl, rfl⟩
     ·rw [if_neg h24]
      refine TP.up (H := 2 * f) (x := fun n => z1a n (PS L ts.tail ((d + 1 : Nat) : Int) i) >>= fun v3 => z05 v3.1 (ByteArray.mk #[41]) >>= fun v4 => some ((z00.mk v4.f_l v4.f_end v4.f_e v4.f_at (IntKind.i64.wrap (v4.f_deep - 1)) v4.f_in), v3.2)) rfl (fun n => by
       simp only [z1b, zli hd, if_neg h24, Option.bind_eq_bind, Option.bind_some, Bool.not_true, Bool.false_eq_true, if_false, zqf hl, h2, if_true]) ?_
      refine TP.bind (ih.exp (d + 1) ts.tail (by omega) hlt) (fun v r hv => ?_) (fun r c p hc he => zh1 (r := ((⟨r.1.f_l, r.1.f_end, r.1.f_e, r.1.f_at, IntKind.i64.wrap (r.1.f_deep - 1), r.1.f_in⟩ : z00), r.2)) (fun n => .inl (by rw [zbw (z4o hc he)]; rfl)) ⟨he.1, he.2⟩)
      have hr := (sf.exp _ _ _ _ hv).length_le
      refine TP.bind (π' := Prod.fst) (mk' := mkE) (k := fun n v4 => some ((z00.mk v4.f_l v4.f_end v4.f_e v4.f_at (IntKind.i64.wrap (v4.f_deep - 1)) v4.f_in), cE v)) (z74 (L := L) (d := ((d + 1 : Nat) : Int)) (i := i) (ts := r) (H := 2 * f) (by omega) (ByteArray.mk #[41])) (fun _ r' hv' => TP.pure (fun n => ?_)) (fun r c p hc he => zh1 (fun n => .inl rfl) ⟨he.1, he.2⟩)
      have hw : IntKind.i64.wrap (((d + 1 : Nat) : Int) - 1) = (d : Int) := by rw [w64 (by omega) (by omega)]; omega
      show some ((⟨r'.map tokT, L, 0, 0, IntKind.i64.wrap (((d + 1 : Nat) : Int) - 1), i⟩ : z00), _) = _
      rw [hw]; rfl
    | false =>
     simp only [Bool.false_eq_true, if_false]
     cases h3 : sOf 2 ts with
     | true =>
      simp only [if_true]
      refine (TP.up (H := 2 * f) (x := fun n => z1z (PS L ts d i) >>= fun v6 => some (v6.1, (z04.mk 1 v6.2 (ByteArray.mk #[]) []))) rfl (fun n => by simp only [z0h, zfh, of_P, h1, h2, h3, Option.bind_eq_bind, Option.bind_some, if_true, Bool.false_eq_true, if_false]) ?_).mono (by omega)
      refine TP.bind (zx0 hl) (fun v r hv => TP.pure (fun n => ?_)) (fun r c p hc he => zh1 (fun n => .inl rfl) ⟨he.1, he.2⟩)
      simp only [mkE, cE, cEs]
     | false =>
      simp only [Bool.false_eq_true, if_false]
      refine (TP.up (H := 2 * f) (x := fun n => z0f (PS L ts d i) >>= fun v7 => some (v7.1, (z04.mk 2 0 v7.2 []))) rfl (fun n => by simp only [z0h, zfh, of_P, h1, h2, h3, Option.bind_eq_bind, Option.bind_some, Bool.false_eq_true, if_false]) ?_).mono (by omega)
      refine TP.bind (zay hl) (fun v r hv => TP.pure (fun n => ?_)) (fun r c p hc he => zh1 (fun n => .inl rfl) ⟨he.1, he.2⟩)
      simp only [mkE, cE, cEs]
  ·-- products
   simp only [sMul]
   cases hs : z56 mulS ts with
   | none => exact TP.pure (fun n => by rw [z033 hl, hs])
   | some j =>
    have hlt := (z93 hs).1
    refine (TP.eq (y := fun n => z0h n (PS L ts.tail d i) >>= fun v => MF n v.1 ⟨6 + (j : Int), 0, ByteArray.mk #[], [cE e, v.2]⟩) ?_ (fun n => by rw [z033 hl, hs])).mono (show 2 * f ≤ 2 * (f + 1) by omega)
    refine TP.bind (ih.fac d ts.tail hd (by omega)) (fun v r hv => ?_) (fun r c p hc he => zh1 (fun n => .inl (MF_e (z4o hc he) n _)) ⟨he.1, he.2⟩)
    have hr := (sf.fac _ _ _ _ hv).length_le
    have := ih.mul d ⟨6 + (j : Int), 0, ByteArray.mk #[], [e, v]⟩ r hd (by omega)
    simp only [cE, cEs] at this
    exact this
  ·-- a term
   simp only [zds]
   refine TP.up (H := 2 * f + 1) (x := fun n => z08 n (PS L ts d i) mulS 6) rfl (fun n => by simp only [z15, Option.bind_eq_bind, zik]; rfl) ?_
   refine TP.up (H := 2 * f) (x := fun n => z0h n (PS L ts d i) >>= fun v1 => MF n v1.1 v1.2) rfl (fun n => rfl) ?_
   refine TP.bind (ih.fac d ts hd hl) (fun v r hv => ?_) (fun r c p hc he => zh1 (fun n => .inl (MF_e (z4o hc he) n _)) ⟨he.1, he.2⟩)
   have hr := (sf.fac _ _ _ _ hv).length_le
   exact ih.mul d v r hd (by omega)
  ·-- sums
   simp only [sAdd]
   cases hs : z56 addS ts with
   | none => exact TP.pure (fun n => by rw [z034 hl, hs])
   | some j =>
    have hlt := (z93 hs).1
    refine (TP.eq (y := fun n => z15 n (PS L ts.tail d i) >>= fun v => AF n v.1 ⟨4 + (j : Int), 0, ByteArray.mk #[], [cE e, v.2]⟩) ?_ (fun n => by rw [z034 hl, hs])).mono (show 2 * f ≤ 2 * (f + 1) by omega)
    refine TP.bind (ih.term d ts.tail hd (by omega)) (fun v r hv => ?_) (fun r c p hc he => zh1 (fun n => .inl (AF_e (z4o hc he) n _)) ⟨he.1, he.2⟩)
    have hr := (sf.term _ _ _ _ hv).length_le
    have := ih.add d ⟨4 + (j : Int), 0, ByteArray.mk #[], [e, v]⟩ r hd (by omega)
    simp only [cE, cEs] at this
    exact this
  ·-- an expression
   simp only [zdt]
   refine TP.up (H := 2 * f + 1) (x := fun n => z09 n (PS L ts d i) addS 4) rfl (fun n => by simp only [z1a, Option.bind_eq_bind, zik]; rfl) ?_
   refine TP.up (H := 2 * f) (x := fun n => z15 n (PS L ts d i) >>= fun v1 => AF n v1.1 v1.2) rfl (fun n => rfl) ?_
   refine TP.bind (ih.term d ts hd hl) (fun v r hv => ?_) (fun r c p hc he => zh1 (fun n => .inl (AF_e (z4o hc he) n _)) ⟨he.1, he.2⟩)
   have hr := (sf.term _ _ _ _ hv).length_le
   exact ih.add d v r hd (by omega)
end Go.Proofs.YtokjbpmjdcbogaaGreatDoor.Abs.Par
/- The program's reader reads comparisons and plain statements as parsing does. -/
namespace Go.Proofs.YtokjbpmjdcbogaaGreatDoor.Abs.Par
open Go Go.RowKit Wri
set_option linter.unusedVariables false
set_option linter.unusedSimpArgs false
/-! ### Fuel -/
theorem z14 {α β : Type} {o : Rs α} {k : α → List Tok → Rs β} (h : o.bind k = .out) : o = .out ∨ ∃ w s, o = .ok w s ∧ k w s = .out := by
 cases o with
 | ok w s => exact .inr ⟨w, s, rfl, h⟩
 | er c p => cases h
 | out => exact .inl rfl
theorem z5o {L : Int} {w : ByteArray} {ts : List Tok} : z7l L w ts ≠ .out := by unfold z7l; split <;> simp
theorem z89 {L : Int} {ts : List Tok} : zai L ts ≠ .out := by
 cases ts with
 | nil => simp [zai]
 | cons t r => simp only [zai]; split <;> simp
theorem zqg {L : Int} {ts : List Tok} : sNum L ts ≠ .out := by
 cases ts with
 | nil => simp [sNum]
 | cons t r => simp only [sNum]; split <;> simp
structure Fu (L : Int) (f : Nat) : Prop where
 fac : ∀ d ts, 4 * ts.length + 1 ≤ f → z6t L f d ts ≠ .out
 mul : ∀ d e ts, 4 * ts.length + 1 ≤ f → sMul L f d e ts ≠ .out
 term : ∀ d ts, 4 * ts.length + 2 ≤ f → zds L f d ts ≠ .out
 add : ∀ d e ts, 4 * ts.length + 2 ≤ f → sAdd L f d e ts ≠ .out
 exp : ∀ d ts, 4 * ts.length + 3 ≤ f → zdt L f d ts ≠ .out
theorem fu (L : Int) : ∀ f, Fu L f := by
 intro f
 induction f with
 | zero => exact ⟨fun d ts h => by omega, fun d e ts h => by omega, fun d ts h => by omega, fun d e ts h => by omega, fun d ts h => by omega⟩
 | succ f ih =>
  have sf := suf L f
  refine ⟨fun d ts hf h => ?_, fun d e ts hf h => ?_, fun d ts hf h => ?_, fun d e ts hf h => ?_, fun d ts hf h => ?_⟩
  ·simp only [z6t] at h
   split at h
   ·rename_i h1
    have := z5k h1
    split at h
    ·cases h
    ·rcases z14 h with h | ⟨w, s, h2, h3⟩
     ·exact ih.fac _ _ (by omega) h
     ·cases h3
   ·split at h
    ·rename_i h1
     have := z5k h1
     split at h
     ·cases h
     ·rcases z14 h with h | ⟨w, s, h2, h3⟩
      ·exact ih.exp _ _ (by omega) h
      ·rcases z14 h3 with h | ⟨w, s, h4, h5⟩
       ·exact z5o h
       ·cases h5
    ·split at h
     ·rcases z14 h with h | ⟨w, s, h2, h3⟩
      ·exact zqg h
      ·cases h3
     ·rcases z14 h with h | ⟨w, s, h2, h3⟩
      ·exact z89 h
      ·cases h3
  ·simp only [sMul] at h
   split at h
   ·cases h
   ·rename_i j hj
    have := (z93 hj).1
    rcases z14 h with h | ⟨w, s, h2, h3⟩
    ·exact ih.fac _ _ (by omega) h
    ·have := (sf.fac _ _ _ _ h2).length_le
     exact ih.mul _ _ _ (by omega) h3
  ·simp only [zds] at h
   rcases z14 h with h | ⟨w, s, h2, h3⟩
   ·exact ih.fac _ _ (by omega) h
   ·have := (sf.fac _ _ _ _ h2).length_le
    exact ih.mul _ _ _ (by omega) h3
  ·simp only [sAdd] at h
   split at h
   ·cases h
   ·rename_i j hj
    have := (z93 hj).1
    rcases z14 h with h | ⟨w, s, h2, h3⟩
    ·exact ih.term _ _ (by omega) h
    ·have := (sf.term _ _ _ _ h2).length_le
     exact ih.add _ _ _ (by omega) h3
  ·simp only [zdt] at h
   rcases z14 h with h | ⟨w, s, h2, h3⟩
   ·exact ih.term _ _ (by omega) h
   ·have := (sf.term _ _ _ _ h2).length_le
    exact ih.add _ _ _ (by omega) h3
/-! ### What comparisons and plain statements are -/
section
variable (L : Int)
def eX (ts : List Tok) : Rs z1m := zdt L (4 * ts.length + 3) 0 ts
def cmpS : List ByteArray := [(ByteArray.mk #[61, 61]), (ByteArray.mk #[33, 61]), (ByteArray.mk #[60]), (ByteArray.mk #[60, 61]), (ByteArray.mk #[62]), (ByteArray.mk #[62, 61])]
def zjf (ts : List Tok) : Rs z7t := (z7l L (ByteArray.mk #[40]) ts).bind fun _ r1 => (eX L r1).bind fun l r2 => match z56 cmpS r2 with
 | none => .er 5 (sAt L r2)
 | some j => (eX L r2.tail).bind fun r r3 => (z7l L (ByteArray.mk #[41]) r3).bind fun _ r4 => .ok ⟨1 + (j : Int), l, r⟩ r4
abbrev nB : ByteArray := ByteArray.mk #[]
def zmz (ts : List Tok) : Rs z0t := (zai L ts).bind fun n r1 => (z7l L (ByteArray.mk #[46]) r1).bind fun _ r2 => (zai L r2).bind fun t r3 => (z7l L (ByteArray.mk #[40]) r3).bind fun _ r4 =>
 (eX L r4).bind fun e r5 => (z7l L (ByteArray.mk #[41]) r5).bind fun _ r6 => (z7l L (ByteArray.mk #[59]) r6).bind fun _ r7 => .ok (.mk 4 n t e zC [] [] []) r7
def zef (ts : List Tok) : Rs z0t := (zjf L ts).bind fun c r1 => (z7l L (ByteArray.mk #[59]) r1).bind fun _ r2 => .ok (.mk 6 nB nB zE c [] [] []) r2
def zi2 (ts : List Tok) : Rs z0t := (zai L ts).bind fun n r1 => (z7l L (ByteArray.mk #[59]) r1).bind fun _ r2 => .ok (.mk 7 n nB zE zC [] [] []) r2
def zee (ts : List Tok) : Rs z0t := (zai L ts).bind fun n r1 => (z7l L (ByteArray.mk #[61]) r1).bind fun _ r2 => (eX L r2).bind fun e r3 => (z7l L (ByteArray.mk #[59]) r3).bind fun _ r4 => .ok (.mk 1 n nB e zC [] [] []) r4
end
section
variable {L : Int} {ts r : List Tok}
theorem zue : eX L ts ≠ .out := (fu L _).exp _ _ (Nat.le_refl _)
theorem zi4 {v : z1m} (h : eX L ts = .ok v r) : r <:+ ts := (suf L _).exp _ _ _ _ h
theorem zoz : zjf L ts ≠ .out := fun h => by
 unfold zjf at h
 rcases z14 h with h | ⟨_, r1, _, h⟩
 ·exact z5o h
 rcases z14 h with h | ⟨l, r2, _, h⟩
 ·exact zue h
 split at h
 ·cases h
 rcases z14 h with h | ⟨_, r3, _, h⟩
 ·exact zue h
 rcases z14 h with h | ⟨_, r4, _, h⟩
 ·exact z5o h
 ·cases h
theorem zc8 {v : z7t} (h : zjf L ts = .ok v r) : r <:+ ts ∧ r.length < ts.length := by
 unfold zjf at h
 obtain ⟨_, r1, h1, h⟩ := bind_ok h
 obtain ⟨l, r2, h2, h⟩ := bind_ok h
 split at h
 ·cases h
 obtain ⟨e, r3, h3, h⟩ := bind_ok h
 obtain ⟨_, r4, h4, h⟩ := bind_ok h
 injection h with _ h; subst h
 have q1 := z2o h1
 have q2 := zi4 h2
 have q3 := zi4 h3
 have q4 := z2o h4
 have q := q4.1.trans (q3.trans ((List.tail_suffix r2).trans q2))
 exact ⟨q.trans q1.1, by have := q.length_le; omega⟩
theorem z00i : zmz L ts ≠ .out := fun h => by
 unfold zmz at h
 rcases z14 h with h | ⟨_, _, _, h⟩
 ·exact z89 h
 rcases z14 h with h | ⟨_, _, _, h⟩
 ·exact z5o h
 rcases z14 h with h | ⟨_, _, _, h⟩
 ·exact z89 h
 rcases z14 h with h | ⟨_, _, _, h⟩
 ·exact z5o h
 rcases z14 h with h | ⟨_, _, _, h⟩
 ·exact zue h
 rcases z14 h with h | ⟨_, _, _, h⟩
 ·exact z5o h
 rcases z14 h with h | ⟨_, _, _, h⟩
 ·exact z5o h
 ·cases h
theorem zx5 {v : z0t} (h : zmz L ts = .ok v r) : r <:+ ts := by
 unfold zmz at h
 obtain ⟨_, r1, h1, h⟩ := bind_ok h
 obtain ⟨_, r2, h2, h⟩ := bind_ok h
 obtain ⟨_, r3, h3, h⟩ := bind_ok h
 obtain ⟨_, r4, h4, h⟩ := bind_ok h
 obtain ⟨_, r5, h5, h⟩ := bind_ok h
 obtain ⟨_, r6, h6, h⟩ := bind_ok h
 obtain ⟨_, r7, h7, h⟩ := bind_ok h
 injection h with _ h; subst h
 exact (z2o h7).1.trans ((z2o h6).1.trans ((zi4 h5).trans ((z2o h4).1.trans ((z3q h3).1.trans ((z2o h2).1.trans (z3q h1).1)))))
theorem zv4 : zef L ts ≠ .out := fun h => by
 unfold zef at h
 rcases z14 h with h | ⟨_, _, _, h⟩
 ·exact zoz h
 rcases z14 h with h | ⟨_, _, _, h⟩
 ·exact z5o h
 ·cases h
theorem zsd {v : z0t} (h : zef L ts = .ok v r) : r <:+ ts := by
 unfold zef at h
 obtain ⟨_, r1, h1, h⟩ := bind_ok h
 obtain ⟨_, r2, h2, h⟩ := bind_ok h
 injection h with _ h; subst h
 exact (z2o h2).1.trans (zc8 h1).1
theorem zx6 : zi2 L ts ≠ .out := fun h => by
 unfold zi2 at h
 rcases z14 h with h | ⟨_, _, _, h⟩
 ·exact z89 h
 rcases z14 h with h | ⟨_, _, _, h⟩
 ·exact z5o h
 ·cases h
theorem zv5 {v : z0t} (h : zi2 L ts = .ok v r) : r <:+ ts := by
 unfold zi2 at h
 obtain ⟨_, r1, h1, h⟩ := bind_ok h
 obtain ⟨_, r2, h2, h⟩ := bind_ok h
 injection h with _ h; subst h
 exact (z2o h2).1.trans (z3q h1).1
theorem zv6 : zee L ts ≠ .out := fun h => by
 unfold zee at h
 rcases z14 h with h | ⟨_, _, _, h⟩
 ·exact z89 h
 rcases z14 h with h | ⟨_, _, _, h⟩
 ·exact z5o h
 rcases z14 h with h | ⟨_, _, _, h⟩
 ·exact zue h
 rcases z14 h with h | ⟨_, _, _, h⟩
 ·exact z5o h
 ·cases h
theorem zse {v : z0t} (h : zee L ts = .ok v r) : r <:+ ts ∧ r.length < ts.length := by
 unfold zee at h
 obtain ⟨_, r1, h1, h⟩ := bind_ok h
 obtain ⟨_, r2, h2, h⟩ := bind_ok h
 obtain ⟨_, r3, h3, h⟩ := bind_ok h
 obtain ⟨_, r4, h4, h⟩ := bind_ok h
 injection h with _ h; subst h
 have q1 := z3q h1
 have q := (z2o h4).1.trans ((zi4 h3).trans (z2o h2).1)
 exact ⟨q.trans q1.1, by have := q.length_le; omega⟩
end
/-! ### The program's -/
theorem zx7 {a : z00} (h : a.f_e ≠ 0) : z1o a [(ByteArray.mk #[61, 61]), (ByteArray.mk #[33, 61]), (ByteArray.mk #[60]), (ByteArray.mk #[60, 61]), (ByteArray.mk #[62]), (ByteArray.mk #[62, 61])] = some (a, -1) := zv3 h _ (by decide)
instance : Inhabited z00 := ⟨⟨[], 0, 0, 0, 0, 0⟩⟩
instance : Inhabited z04 := ⟨zA⟩
instance : Inhabited z31 := ⟨⟨0, zA, zA⟩⟩
def zCA : z31 := ⟨0, zA, zA⟩
def zSA : z03 := .mk 0 nB nB zA zCA [] [] []
instance : Inhabited z03 := ⟨zSA⟩
instance : Inhabited ByteArray := ⟨nB⟩
theorem z40 {ρ : Type} {P : ρ → Prop} {x : Option ρ} {H : Nat} {r : ρ} (e : x = some r) (p : P r) : ∃ r, P r ∧ ∀ n, Sn n H x r := ⟨r, p, fun _ => .inl e⟩
theorem eP {a : z00} (h : a.f_e ≠ 0) : (∀ w, z05 a w = some a) ∧ z0f a = some (a, ByteArray.mk #[]) ∧ z1z a = some (a, 0) ∧ z4y a = some (a, vA) ∧ (∀ w, z0g a w = some (a, false)) ∧ (∀ c, z29 a c = some a) ∧ z1o a [(ByteArray.mk #[61, 61]), (ByteArray.mk #[33, 61]), (ByteArray.mk #[60]), (ByteArray.mk #[60, 61]), (ByteArray.mk #[62]), (ByteArray.mk #[62, 61])] = some (a, -1) := ⟨zbw h, zkm h, z030 h, z032 h, zei h, zkl h, zx7 h⟩
theorem neg1 : decide ((-1 : Int) < 0) = true := rfl
theorem zqh {L i : Int} {ts : List Tok} {H : Nat} (hl : ts.length ≤ 2000) : TP L 0 i Prod.fst mkE H (fun _ => z4y (PS L ts 0 i)) (eX L ts) :=
 ((px L i _).exp 0 ts (by omega) hl).unf.mono (Nat.zero_le _)
abbrev mkC : z7t → z00 → z00 × z31 := fun v a => (a, cC v)
theorem z4e {r ts : List Tok} (h : r <:+ ts) (hl : ts.length ≤ 2000) : r.length ≤ 2000 := by have := h.length_le; omega
theorem zv7 {L i : Int} {ts : List Tok} {H : Nat} (hl : ts.length ≤ 2000) : TP L 0 i Prod.fst mkC H (fun _ => z4z (PS L ts 0 i)) (zjf L ts) := by
 unfold zjf z4z
 refine TP.bind (π' := Prod.fst) (mk' := mkC) (z74 hl _) (fun _ r1 h1 => ?_) (fun r c p hc he => z40 (by simp only [eP (a := r) (z4o hc he), Option.bind_eq_bind, Option.bind_some, neg1, if_true]; rfl) ⟨he.1, he.2⟩)
 have l1 := z4e (z2o h1).1 hl
 refine TP.bind (π' := Prod.fst) (mk' := mkC) (zqh l1) (fun l r2 h2 => ?_) (fun r c p hc he => z40 (by simp only [eP (a := r.1) (z4o hc he), Option.bind_eq_bind, Option.bind_some, neg1, if_true]; rfl) ⟨he.1, he.2⟩)
 have l2 := z4e (zi4 h2) l1
 have hw := zlh (L := L) (d := 0) (i := i) l2 cmpS (by decide)
 cases hs : z56 cmpS r2 with
 | none =>
  rw [hs] at hw
  refine TP.err (r := ((⟨r2.map tokT, L, 5, sAt L r2, 0, i⟩ : z00), ⟨0, cE l, zA⟩)) (fun n => ?_) (by decide) ⟨rfl, rfl⟩
  show (z1o (PS L r2 0 i) cmpS).bind _ = _
  rw [hw]
  simp only [Option.bind_some, neg1, if_true, zjn, Option.bind_eq_bind]
  rfl
 | some j =>
  rw [hs] at hw
  have hj := (z93 hs).2
  have hj : j < 6 := hj
  have q1 : decide (((j : Nat) : Int) < 0) = false := by simp
  have q2 : IntKind.i64.wrap (1 + (j : Int)) = 1 + (j : Int) := w64 (by omega) (by omega)
  have l3 : r2.tail.length ≤ 2000 := by have := (z93 hs).1; omega
  refine TP.eq (y := fun _ => z4y (PS L r2.tail 0 i) >>= fun v5 => z05 v5.1 (ByteArray.mk #[41]) >>= fun v6 => some (v6, (z31.mk (1 + (j : Int)) (cE l) v5.2))) ?_ (fun n => by
   show (z1o (PS L r2 0 i) cmpS).bind _ = _
   rw [hw]
   simp only [Option.bind_some, q1, Bool.false_eq_true, if_false, q2])
  refine TP.bind (π' := Prod.fst) (mk' := mkC) (zqh l3) (fun e r3 h3 => ?_) (fun r c p hc he => z40 (by simp only [eP (a := r.1) (z4o hc he), Option.bind_eq_bind, Option.bind_some, neg1, if_true]; rfl) ⟨he.1, he.2⟩)
  have l4 := z4e (zi4 h3) l3
  refine TP.bind (π' := Prod.fst) (mk' := mkC) (z74 l4 _) (fun _ r4 h4 => TP.pure (fun n => rfl)) (fun r c p hc he => z40 (by simp only [eP (a := r) (z4o hc he), Option.bind_eq_bind, Option.bind_some, neg1, if_true]; rfl) ⟨he.1, he.2⟩)
abbrev mkS : z0t → z00 → z00 × z03 := fun v a => (a, cS v)
theorem cZ : cE zE = zA := by simp only [zE, cE, cEs]; rfl
theorem cZC : cC zC = zCA := by unfold cC zC zCA; simp only [cZ]
theorem z035 {L i : Int} {ts : List Tok} {H : Nat} (hl : ts.length ≤ 2000) : TP L 0 i Prod.fst mkS H (fun _ => z6g (PS L ts 0 i)) (zmz L ts) := by
 unfold zmz z6g
 refine TP.bind (π' := Prod.fst) (mk' := mkS) (zay hl) (fun n r1 h1 => ?_) (fun r c p hc he => z40 (by simp only [eP (a := r.1) (z4o hc he), Option.bind_eq_bind, Option.bind_some, neg1, if_true]; rfl) ⟨he.1, he.2⟩)
 have l1 := z4e (z3q h1).1 hl
 refine TP.bind (π' := Prod.fst) (mk' := mkS) (z74 l1 _) (fun _ r2 h2 => ?_) (fun r c p hc he => z40 (by simp only [eP (a := r) (z4o hc he), Option.bind_eq_bind, Option.bind_some, neg1, if_true]; rfl) ⟨he.1, he.2⟩)
 have l2 := z4e (z2o h2).1 l1
 refine TP.bind (π' := Prod.fst) (mk' := mkS) (zay l2) (fun t r3 h3 => ?_) (fun r c p hc he => z40 (by simp only [eP (a := r.1) (z4o hc he), Option.bind_eq_bind, Option.bind_some, neg1, if_true]; rfl) ⟨he.1, he.2⟩)
 have l3 := z4e (z3q h3).1 l2
 refine TP.bind (π' := Prod.fst) (mk' := mkS) (z74 l3 _) (fun _ r4 h4 => ?_) (fun r c p hc he => z40 (by simp only [eP (a := r) (z4o hc he), Option.bind_eq_bind, Option.bind_some, neg1, if_true]; rfl) ⟨he.1, he.2⟩)
 have l4 := z4e (z2o h4).1 l3
 refine TP.bind (π' := Prod.fst) (mk' := mkS) (zqh l4) (fun e r5 h5 => ?_) (fun r c p hc he => z40 (by simp only [eP (a := r.1) (z4o hc he), Option.bind_eq_bind, Option.bind_some, neg1, if_true]; rfl) ⟨he.1, he.2⟩)
 have l5 := z4e (zi4 h5) l4
 refine TP.bind (π' := Prod.fst) (mk' := mkS) (z74 l5 _) (fun _ r6 h6 => ?_) (fun r c p hc he => z40 (by simp only [eP (a := r) (z4o hc he), Option.bind_eq_bind, Option.bind_some, neg1, if_true]; rfl) ⟨he.1, he.2⟩)
 have l6 := z4e (z2o h6).1 l5
 refine TP.bind (π' := Prod.fst) (mk' := mkS) (z74 l6 _) (fun _ r7 h7 => TP.pure (fun n => ?_)) (fun r c p hc he => z40 (by simp only [eP (a := r) (z4o hc he), Option.bind_eq_bind, Option.bind_some, neg1, if_true]; rfl) ⟨he.1, he.2⟩)
 simp only [mkS, cS, cZC, cL, cA]
 rfl
theorem zx8 {L i : Int} {ts : List Tok} {H : Nat} (hl : ts.length ≤ 2000) : TP L 0 i Prod.fst mkS H (fun _ => z5w (PS L ts 0 i)) (zef L ts) := by
 unfold zef z5w
 refine TP.bind (π' := Prod.fst) (mk' := mkS) (zv7 hl) (fun n r1 h1 => ?_) (fun r c p hc he => z40 (by simp only [eP (a := r.1) (z4o hc he), Option.bind_eq_bind, Option.bind_some, neg1, if_true]; rfl) ⟨he.1, he.2⟩)
 have l1 := z4e (zc8 h1).1 hl
 refine TP.bind (π' := Prod.fst) (mk' := mkS) (z74 l1 _) (fun _ r2 h2 => TP.pure (fun n => ?_)) (fun r c p hc he => z40 (by simp only [eP (a := r) (z4o hc he), Option.bind_eq_bind, Option.bind_some, neg1, if_true]; rfl) ⟨he.1, he.2⟩)
 simp only [mkS, cS, cZ, cL, cA]
 rfl
theorem z00j {L i : Int} {ts : List Tok} {H : Nat} (hl : ts.length ≤ 2000) : TP L 0 i Prod.fst mkS H (fun _ => z65 (PS L ts 0 i)) (zi2 L ts) := by
 unfold zi2 z65
 refine TP.bind (π' := Prod.fst) (mk' := mkS) (zay hl) (fun n r1 h1 => ?_) (fun r c p hc he => z40 (by simp only [eP (a := r.1) (z4o hc he), Option.bind_eq_bind, Option.bind_some, neg1, if_true]; rfl) ⟨he.1, he.2⟩)
 have l1 := z4e (z3q h1).1 hl
 refine TP.bind (π' := Prod.fst) (mk' := mkS) (z74 l1 _) (fun _ r2 h2 => TP.pure (fun n => ?_)) (fun r c p hc he => z40 (by simp only [eP (a := r) (z4o hc he), Option.bind_eq_bind, Option.bind_some, neg1, if_true]; rfl) ⟨he.1, he.2⟩)
 simp only [mkS, cS, cZ, cZC, cL, cA]
 rfl
theorem zx9 {L i : Int} {ts : List Tok} {H : Nat} (hl : ts.length ≤ 2000) : TP L 0 i Prod.fst mkS H (fun _ => z5x (PS L ts 0 i)) (zee L ts) := by
 unfold zee z5x
 refine TP.bind (π' := Prod.fst) (mk' := mkS) (zay hl) (fun n r1 h1 => ?_) (fun r c p hc he => z40 (by simp only [eP (a := r.1) (z4o hc he), Option.bind_eq_bind, Option.bind_some, neg1, if_true]; rfl) ⟨he.1, he.2⟩)
 have l1 := z4e (z3q h1).1 hl
 refine TP.bind (π' := Prod.fst) (mk' := mkS) (z74 l1 _) (fun _ r2 h2 => ?_) (fun r c p hc he => z40 (by simp only [eP (a := r) (z4o hc he), Option.bind_eq_bind, Option.bind_some, neg1, if_true]; rfl) ⟨he.1, he.2⟩)
 have l2 := z4e (z2o h2).1 l1
 refine TP.bind (π' := Prod.fst) (mk' := mkS) (zqh l2) (fun e r3 h3 => ?_) (fun r c p hc he => z40 (by simp only [eP (a := r.1) (z4o hc he), Option.bind_eq_bind, Option.bind_some, neg1, if_true]; rfl) ⟨he.1, he.2⟩)
 have l3 := z4e (zi4 h3) l2
 refine TP.bind (π' := Prod.fst) (mk' := mkS) (z74 l3 _) (fun _ r4 h4 => TP.pure (fun n => ?_)) (fun r c p hc he => z40 (by simp only [eP (a := r) (z4o hc he), Option.bind_eq_bind, Option.bind_some, neg1, if_true]; rfl) ⟨he.1, he.2⟩)
 simp only [mkS, cS, cZC, cL, cA]
 rfl
section
variable {a : z00} (h : a.f_e ≠ 0)
include h
end
end Go.Proofs.YtokjbpmjdcbogaaGreatDoor.Abs.Par
/- The program's reader reads statements as parsing does. -/
namespace Go.Proofs.YtokjbpmjdcbogaaGreatDoor.Abs.Par
open Go Go.RowKit Wri
set_option linter.unusedVariables false
set_option linter.unusedSimpArgs false
/-! ### What statements are -/
section
variable (L : Int)
mutual
def z92 : Nat → Nat → List Tok → Rs (List z0t)
 | 0, _, _ => .out
 | f + 1, i, ts => match z9u f i ts with
  | none => .ok [] ts
  | some o => o.bind fun s r => (z92 f i r).bind fun l r' => .ok (s :: l) r'
def z9u : Nat → Nat → List Tok → Option (Rs z0t)
 | 0, _, _ => some .out
 | f + 1, i, ts =>
  if z33 (ByteArray.mk #[105, 102]) ts then some ((zjf L ts.tail).bind fun c r1 => (z9t f i r1).bind fun b r2 =>
   if z33 (ByteArray.mk #[101, 108, 115, 101]) r2 then (z9t f i r2.tail).bind fun l r3 => .ok (.mk 2 nB nB zE c b l []) r3 else .ok (.mk 2 nB nB zE c b [] []) r2)
  else if z33 (ByteArray.mk #[119, 104, 105, 108, 101]) ts then some ((zjf L ts.tail).bind fun c r1 => (z9t f i r1).bind fun b r2 => .ok (.mk 3 nB nB zE c b [] []) r2)
  else if z33 (ByteArray.mk #[115, 101, 110, 100]) ts then some (zmz L ts.tail)
  else if z33 (ByteArray.mk #[114, 101, 99, 118]) ts then some ((zai L ts.tail).bind fun n r1 => (z7l L (ByteArray.mk #[123]) r1).bind fun _ r2 => (sArm f i r2).bind fun a r3 => (zda f i r3).bind fun l r4 =>
   (z7l L (ByteArray.mk #[125]) r4).bind fun _ r5 => .ok (.mk 5 n nB zE zC [] [] (a :: l)) r5)
  else if z33 (ByteArray.mk #[97, 115, 115, 101, 114, 116]) ts then some (zef L ts.tail)
  else if z33 (ByteArray.mk #[105, 110, 112, 117, 116]) ts then some (zi2 L ts.tail)
  else if sOf 1 ts then some (zee L ts)
  else none
def sArm : Nat → Nat → List Tok → Rs z4p
 | 0, _, _ => .out
 | f + 1, i, ts => (zai L ts).bind fun t r1 => (z7l L (ByteArray.mk #[40]) r1).bind fun _ r2 => (zai L r2).bind fun v r3 => (z7l L (ByteArray.mk #[41]) r3).bind fun _ r4 => (z9t f i r4).bind fun b r5 => .ok (.mk t v b) r5
def zda : Nat → Nat → List Tok → Rs (List z4p)
 | 0, _, _ => .out
 | f + 1, i, ts => if z33 (ByteArray.mk #[125]) ts then .ok [] ts else (sArm f i ts).bind fun a r => (zda f i r).bind fun l r' => .ok (a :: l) r'
def z9t : Nat → Nat → List Tok → Rs (List z0t)
 | 0, _, _ => .out
 | f + 1, i, ts => if z33 (ByteArray.mk #[123]) ts && decide (i = 24) then .er 6 (sAt L ts)
  else (z7l L (ByteArray.mk #[123]) ts).bind fun _ r1 => (z92 f (i + 1) r1).bind fun b r2 => (z7l L (ByteArray.mk #[125]) r2).bind fun _ r3 => .ok b r3
end
end
structure SufS (L : Int) (f : Nat) : Prop where
 stmts : ∀ i ts v r, z92 L f i ts = .ok v r → r <:+ ts
 stmt : ∀ i ts v r, z9u L f i ts = some (.ok v r) → r <:+ ts ∧ r.length < ts.length
 arm : ∀ i ts v r, sArm L f i ts = .ok v r → r <:+ ts ∧ r.length < ts.length
 arms : ∀ i ts v r, zda L f i ts = .ok v r → r <:+ ts
 block : ∀ i ts v r, z9t L f i ts = .ok v r → r <:+ ts
theorem zp0 {r s ts : List Tok} (h : r <:+ s) (q : s <:+ ts) (w : s.length < ts.length) : r <:+ ts ∧ r.length < ts.length := ⟨h.trans q, by have := h.length_le; omega⟩
theorem z98 {w : ByteArray} {r ts : List Tok} (h : z33 w ts = true) (q : r <:+ ts.tail) : r <:+ ts ∧ r.length < ts.length := zp0 q (List.tail_suffix ts) (z5k h)
theorem sufS (L : Int) : ∀ f, SufS L f := by
 intro f
 induction f with
 | zero => exact ⟨fun i ts v r h => by simp [z92] at h, fun i ts v r h => by simp [z9u] at h, fun i ts v r h => by simp [sArm] at h, fun i ts v r h => by simp [zda] at h, fun i ts v r h => by simp [z9t] at h⟩
 | succ f ih =>
  refine ⟨fun i ts v r h => ?_, fun i ts v r h => ?_, fun i ts v r h => ?_, fun i ts v r h => ?_, fun i ts v r h => ?_⟩
  ·simp only [z92] at h
   split at h
   ·injection h with _ h; subst h; exact List.suffix_refl _
   ·rename_i o ho
    obtain ⟨s, r1, h1, h⟩ := bind_ok h
    obtain ⟨l, r2, h2, h⟩ := bind_ok h
    injection h with _ h; subst h
    subst h1
    exact (ih.stmts _ _ _ _ h2).trans (ih.stmt _ _ _ _ ho).1
  ·simp only [z9u] at h
   split at h
   ·rename_i hs
    injection h with h
    obtain ⟨c, r1, h1, h⟩ := bind_ok h
    obtain ⟨b, r2, h2, h⟩ := bind_ok h
    have q := (ih.block _ _ _ _ h2).trans (zc8 h1).1
    split at h
    ·obtain ⟨l, r3, h3, h⟩ := bind_ok h
     injection h with _ h; subst h
     exact z98 hs ((ih.block _ _ _ _ h3).trans ((List.tail_suffix r2).trans q))
    ·injection h with _ h; subst h
     exact z98 hs q
   split at h
   ·rename_i hs
    injection h with h
    obtain ⟨c, r1, h1, h⟩ := bind_ok h
    obtain ⟨b, r2, h2, h⟩ := bind_ok h
    injection h with _ h; subst h
    exact z98 hs ((ih.block _ _ _ _ h2).trans (zc8 h1).1)
   split at h
   ·rename_i hs
    injection h with h
    exact z98 hs (zx5 h)
   split at h
   ·rename_i hs
    injection h with h
    obtain ⟨n, r1, h1, h⟩ := bind_ok h
    obtain ⟨_, r2, h2, h⟩ := bind_ok h
    obtain ⟨a, r3, h3, h⟩ := bind_ok h
    obtain ⟨l, r4, h4, h⟩ := bind_ok h
    obtain ⟨_, r5, h5, h⟩ := bind_ok h
    injection h with _ h; subst h
    exact z98 hs ((z2o h5).1.trans ((ih.arms _ _ _ _ h4).trans ((ih.arm _ _ _ _ h3).1.trans ((z2o h2).1.trans (z3q h1).1))))
   split at h
   ·rename_i hs
    injection h with h
    exact z98 hs (zsd h)
   split at h
   ·rename_i hs
    injection h with h
    exact z98 hs (zv5 h)
   split at h
   ·injection h with h
    exact zse h
   ·cases h
  ·simp only [sArm] at h
   obtain ⟨n, r1, h1, h⟩ := bind_ok h
   obtain ⟨_, r2, h2, h⟩ := bind_ok h
   obtain ⟨a, r3, h3, h⟩ := bind_ok h
   obtain ⟨_, r4, h4, h⟩ := bind_ok h
   obtain ⟨b, r5, h5, h⟩ := bind_ok h
   injection h with _ h; subst h
   have q := z3q h1
   exact zp0 ((ih.block _ _ _ _ h5).trans ((z2o h4).1.trans ((z3q h3).1.trans (z2o h2).1))) q.1 q.2
  ·simp only [zda] at h
   split at h
   ·injection h with _ h; subst h; exact List.suffix_refl _
   ·obtain ⟨s, r1, h1, h⟩ := bind_ok h
    obtain ⟨l, r2, h2, h⟩ := bind_ok h
    injection h with _ h; subst h
    exact (ih.arms _ _ _ _ h2).trans (ih.arm _ _ _ _ h1).1
  ·simp only [z9t] at h
   split at h
   ·cases h
   ·obtain ⟨_, r1, h1, h⟩ := bind_ok h
    obtain ⟨b, r2, h2, h⟩ := bind_ok h
    obtain ⟨_, r3, h3, h⟩ := bind_ok h
    injection h with _ h; subst h
    exact (z2o h3).1.trans ((ih.stmts _ _ _ _ h2).trans (z2o h1).1)
structure FuS (L : Int) (f : Nat) : Prop where
 stmts : ∀ i ts, 3 * ts.length + 2 ≤ f → z92 L f i ts ≠ .out
 stmt : ∀ i ts, 3 * ts.length + 1 ≤ f → z9u L f i ts ≠ some .out
 arm : ∀ i ts, 3 * ts.length + 1 ≤ f → sArm L f i ts ≠ .out
 arms : ∀ i ts, 3 * ts.length + 2 ≤ f → zda L f i ts ≠ .out
 block : ∀ i ts, 3 * ts.length + 1 ≤ f → z9t L f i ts ≠ .out
theorem fuS (L : Int) : ∀ f, FuS L f := by
 intro f
 induction f with
 | zero => exact ⟨fun i ts h => by omega, fun i ts h => by omega, fun i ts h => by omega, fun i ts h => by omega, fun i ts h => by omega⟩
 | succ f ih =>
  have sf := sufS L f
  refine ⟨fun i ts hf h => ?_, fun i ts hf h => ?_, fun i ts hf h => ?_, fun i ts hf h => ?_, fun i ts hf h => ?_⟩
  ·simp only [z92] at h
   split at h
   ·cases h
   ·rename_i o ho
    rcases z14 h with h0 | ⟨s, r1, h1, h0⟩
    ·subst h0; exact ih.stmt _ _ (by omega) ho
    ·subst h1
     have := (sf.stmt _ _ _ _ ho).2
     rcases z14 h0 with h2 | ⟨l, r2, h2, h3⟩
     ·exact ih.stmts _ _ (by omega) h2
     ·cases h3
  ·simp only [z9u] at h
   split at h
   ·rename_i hs
    have := z5k hs
    injection h with h
    rcases z14 h with h | ⟨c, r1, h1, h⟩
    ·exact zoz h
    have q1 := (zc8 h1).1.length_le
    rcases z14 h with h | ⟨b, r2, h2, h⟩
    ·exact ih.block _ _ (by omega) h
    have q2 := (sf.block _ _ _ _ h2).length_le
    split at h
    ·rename_i he
     have := z5k he
     rcases z14 h with h | ⟨l, r3, h3, h⟩
     ·exact ih.block _ _ (by omega) h
     ·cases h
    ·cases h
   split at h
   ·rename_i hs
    have := z5k hs
    injection h with h
    rcases z14 h with h | ⟨c, r1, h1, h⟩
    ·exact zoz h
    have q1 := (zc8 h1).1.length_le
    rcases z14 h with h | ⟨b, r2, h2, h⟩
    ·exact ih.block _ _ (by omega) h
    ·cases h
   split at h
   ·injection h with h; exact z00i h
   split at h
   ·rename_i hs
    have := z5k hs
    injection h with h
    rcases z14 h with h | ⟨n, r1, h1, h⟩
    ·exact z89 h
    have q1 := (z3q h1).2
    rcases z14 h with h | ⟨_, r2, h2, h⟩
    ·exact z5o h
    have q2 := (z2o h2).2
    rcases z14 h with h | ⟨a, r3, h3, h⟩
    ·exact ih.arm _ _ (by omega) h
    have q3 := (sf.arm _ _ _ _ h3).2
    rcases z14 h with h | ⟨l, r4, h4, h⟩
    ·exact ih.arms _ _ (by omega) h
    rcases z14 h with h | ⟨_, r5, h5, h⟩
    ·exact z5o h
    ·cases h
   split at h
   ·injection h with h; exact zv4 h
   split at h
   ·injection h with h; exact zx6 h
   split at h
   ·injection h with h; exact zv6 h
   ·cases h
  ·simp only [sArm] at h
   rcases z14 h with h | ⟨t, r1, h1, h⟩
   ·exact z89 h
   have q1 := (z3q h1).2
   rcases z14 h with h | ⟨_, r2, h2, h⟩
   ·exact z5o h
   have q2 := (z2o h2).2
   rcases z14 h with h | ⟨v, r3, h3, h⟩
   ·exact z89 h
   have q3 := (z3q h3).2
   rcases z14 h with h | ⟨_, r4, h4, h⟩
   ·exact z5o h
   have q4 := (z2o h4).2
   rcases z14 h with h | ⟨b, r5, h5, h⟩
   ·exact ih.block _ _ (by omega) h
   ·cases h
  ·simp only [zda] at h
   split at h
   ·cases h
   ·rcases z14 h with h | ⟨a, r1, h1, h⟩
    ·exact ih.arm _ _ (by omega) h
    have q1 := (sf.arm _ _ _ _ h1).2
    rcases z14 h with h | ⟨l, r2, h2, h⟩
    ·exact ih.arms _ _ (by omega) h
    ·cases h
  ·simp only [z9t] at h
   split at h
   ·cases h
   ·rcases z14 h with h | ⟨_, r1, h1, h⟩
    ·exact z5o h
    have q1 := (z2o h1).2
    rcases z14 h with h | ⟨b, r2, h2, h⟩
    ·exact ih.stmts _ _ (by omega) h
    rcases z14 h with h | ⟨_, r3, h3, h⟩
    ·exact z5o h
    ·cases h
/-! ### The program's loops -/
abbrev S7 := List z0e × Int × Int × Int × Int × Int × List z03
abbrev A7 := List z0e × Int × Int × Int × Int × Int × List z0m
def tpS (a : z00) (l : List z03) : S7 := (a.f_l, a.f_end, a.f_e, a.f_at, a.f_deep, a.f_in, l)
def tpA (a : z00) (l : List z0m) : A7 := (a.f_l, a.f_end, a.f_e, a.f_at, a.f_deep, a.f_in, l)
noncomputable def SB (n : Nat) := z6w (z13 n) (z0p n) (z0z n) (z1v n) (z1p n) (z0i n) (z19 n)
noncomputable def RB (n : Nat) := z5m (z13 n) (z0p n) (z0z n) (z1v n) (z1p n) (z0i n) (z19 n)
noncomputable def SL (n : Nat) (a : z00) (l : List z03) : Option (z00 × List z03) := iter (SB n) (tpS a l) >>= Sum.elim (fun r => some r) (fun _ => none)
noncomputable def AL (n : Nat) (a : z00) (l : List z0m) : Option (z00 × List z0m) := iter (RB n) (tpA a l) >>= Sum.elim (fun _ => none) (fun j1 => some (⟨j1.1, j1.2.1, j1.2.2.1, j1.2.2.2.1, j1.2.2.2.2.1, j1.2.2.2.2.2.1⟩, j1.2.2.2.2.2.2))
theorem z036 (n : Nat) (a : z00) (l : List z03) : SL n a l = z0p n a >>= fun v1 => if (!v1.2.2) then some (v1.1, l) else app 288 l [v1.2.1] >>= fun v2 => SL n v1.1 v2 := by
 have hb : SB n (tpS a l) = z0p n a >>= fun v1 => if (!v1.2.2) then some (.inr (.inl (v1.1, l))) else app 288 l [v1.2.1] >>= fun v2 => some (.inl (tpS v1.1 v2)) := rfl
 unfold SL
 rw [zbl, hb]
 simp only [Option.bind_eq_bind, Option.bind_assoc]
 congr 1; funext v1
 cases v1.2.2 with
 | false => rfl
 | true =>
  simp only [Bool.not_true, Bool.false_eq_true, if_false, Option.bind_assoc]
  congr 1
theorem AL_e {a : z00} (h : a.f_e ≠ 0) (n : Nat) (l : List z0m) : AL n a l = some (a, l) := by
 unfold AL
 rw [z6r (r := .inr (tpA a l)) (by
  unfold RB z5m
  rw [if_neg (by simpa [tpA] using h)]
  rfl)]
 rfl
theorem z04u {L d i : Int} {ts : List Tok} (n : Nat) (l : List z0m) : AL n (PS L ts d i) l = if z33 (ByteArray.mk #[125]) ts then some (PS L ts d i, l) else z19 n (PS L ts d i) >>= fun v => app 56 l [v.2] >>= fun v2 => AL n v.1 v2 := by
 have hb : RB n (tpA (PS L ts d i) l) = if z33 (ByteArray.mk #[125]) ts then some (.inr (.inr (tpA (PS L ts d i) l))) else z19 n (PS L ts d i) >>= fun v => app 56 l [v.2] >>= fun v2 => some (.inl (tpA v.1 v2)) := by
  unfold RB z5m
  rw [if_pos (by rfl)]
  show ((z30 (PS L ts d i) (ByteArray.mk #[125]) >>= fun v5 => some (!v5)) >>= _) = _
  rw [zfh]
  cases z33 (ByteArray.mk #[125]) ts <;> rfl
 unfold AL
 rw [zbl, hb]
 cases z33 (ByteArray.mk #[125]) ts with
 | true => rfl
 | false =>
  simp only [Option.bind_eq_bind, Option.bind_assoc, Bool.false_eq_true, if_false]
  congr 1
/-! ### Errors -/
section
variable {a : z00} (h : a.f_e ≠ 0)
include h
theorem z037 (n : Nat) : Sn n 1 (z0p n a) (a, zSA, false) := by
 cases n with
 | zero => exact .inr ⟨rfl, by omega⟩
 | succ n =>
  refine .inl ?_
  simp only [z0p, zei h, of_e h, Option.bind_eq_bind, Option.bind_some, Bool.false_eq_true, if_false]
  rfl
theorem SL_e (n : Nat) (l : List z03) : Sn n 1 (SL n a l) (a, l) := by
 rw [z036]
 exact Sn.bind (f := fun v1 => if (!v1.2.2) then some (v1.1, l) else app 288 l [v1.2.1] >>= fun v2 => SL n v1.1 v2) (z037 h n) (.inl rfl)
theorem zp1 (n : Nat) : Sn n 2 (z13 n a) (a, []) := by
 cases n with
 | zero => exact .inr ⟨rfl, by omega⟩
 | succ n => exact (SL_e h n []).up
end
def bE (a : z00) : z00 := ⟨a.f_l, a.f_end, a.f_e, a.f_at, a.f_deep, IntKind.i64.wrap (IntKind.i64.wrap (a.f_in + 1) - 1)⟩
section
variable {a : z00} (h : a.f_e ≠ 0)
include h
theorem zlj (n : Nat) : Sn n 3 (z0i n a) (bE a, []) := by
 cases n with
 | zero => exact .inr ⟨rfl, by omega⟩
 | succ n =>
  simp only [z0i, zv2 h, Option.bind_eq_bind, Option.bind_some, Bool.false_eq_true, if_false, zbw h]
  refine (Sn.bind (f := fun v4 : z00 × List z03 => (z05 (z00.mk v4.1.f_l v4.1.f_end v4.1.f_e v4.1.f_at v4.1.f_deep (IntKind.i64.wrap (v4.1.f_in - 1))) (ByteArray.mk #[125])).bind fun v5 => some (v5, v4.2)) (zp1 (a := ⟨a.f_l, a.f_end, a.f_e, a.f_at, a.f_deep, IntKind.i64.wrap (a.f_in + 1)⟩) h n) (.inl ?_)).up
  show (z05 (bE a) (ByteArray.mk #[125])).bind _ = _
  rw [zbw (a := bE a) h]; rfl
theorem z04v (n : Nat) : Sn n 4 (z19 n a) (bE a, .mk nB nB []) := by
 cases n with
 | zero => exact .inr ⟨rfl, by omega⟩
 | succ n =>
  simp only [z19, zkm h, zbw h, Option.bind_eq_bind, Option.bind_some]
  exact (Sn.bind (f := fun v5 : z00 × List z03 => some (v5.1, z0m.mk (ByteArray.mk #[]) (ByteArray.mk #[]) v5.2)) (zlj h n) (.inl rfl)).up
end
/-! ### The program's statements -/
def TS (L i : Int) (H : Nat) (x : Nat → Option (z00 × z03 × Bool)) (ts : List Tok) : Option (Rs z0t) → Prop
 | none => ∀ n, Sn n H (x n) (PS L ts 0 i, zSA, false)
 | some o => TP L 0 i Prod.fst (fun v a => (a, cS v, true)) H x o
structure PT (L : Int) (f : Nat) : Prop where
 stmts : ∀ (i : Nat) ts acc, i ≤ 24 → ts.length ≤ 2000 → acc.length + ts.length ≤ 2000 → TP L 0 i Prod.fst (fun v a => (a, acc ++ cL v)) (2 * f + 6) (fun n => SL n (PS L ts 0 i) acc) (z92 L f i ts)
 stmt : ∀ (i : Nat) ts, i ≤ 24 → ts.length ≤ 2000 → TS L i (2 * f + 6) (fun n => z0p n (PS L ts 0 i)) ts (z9u L f i ts)
 arm : ∀ (i : Nat) ts, i ≤ 24 → ts.length ≤ 2000 → TP L 0 i Prod.fst (fun v a => (a, cArm v)) (2 * f + 6) (fun n => z19 n (PS L ts 0 i)) (sArm L f i ts)
 arms : ∀ (i : Nat) ts acc, i ≤ 24 → ts.length ≤ 2000 → acc.length + ts.length ≤ 2000 → TP L 0 i Prod.fst (fun v a => (a, acc ++ cA v)) (2 * f + 6) (fun n => AL n (PS L ts 0 i) acc) (zda L f i ts)
 block : ∀ (i : Nat) ts, i ≤ 24 → ts.length ≤ 2000 → TP L 0 i Prod.fst (fun v a => (a, cL v)) (2 * f + 6) (fun n => z0i n (PS L ts 0 i)) (z9t L f i ts)
theorem TP.map {ρ β γ : Type} {L d i : Int} {π : ρ → z00} {mk : β → z00 → ρ} {mk' : γ → z00 → ρ} {H : Nat} {x : Nat → Option ρ} {o : Rs β} {g : β → γ}
  (h : TP L d i π mk H x o) (e : ∀ v a, mk v a = mk' (g v) a) : TP L d i π mk' H x (o.bind fun v r => .ok (g v) r) := by
 intro hne
 cases o with
 | ok v ts =>
  obtain ⟨r, hr, hs⟩ := h (by simp)
  exact ⟨r, Eq.trans hr (e v _), hs⟩
 | er c p => exact h (by simp)
 | out => exact absurd rfl hne
theorem zyf (x : z4p) (l : List z4p) : cA (x :: l) = cArm x :: cA l := by cases x; rfl
abbrev mkL : List z0t → z00 → z00 × List z03 := fun v a => (a, cL v)
abbrev mkT : z0t → z00 → z00 × z03 × Bool := fun v a => (a, cS v, true)
theorem zjo {L i : Int} {H : Nat} {x : Nat → Option (z00 × z03)} {o : Rs z0t} (h : TP L 0 i Prod.fst mkS H x o) : TP L 0 i Prod.fst mkT H (fun n => x n >>= fun v => some (v.1, v.2, true)) o := by
 intro hne
 obtain ⟨r, g, s⟩ := h hne
 refine ⟨(r.1, r.2, true), ?_, fun n => Sn.bind (f := fun v => some (v.1, v.2, true)) (s n) (.inl rfl)⟩
 cases o with
 | ok v ts => have g : r = mkS v (PS L ts 0 i) := g; subst g; rfl
 | er c p => exact g
 | out => exact absurd rfl hne
theorem pt (L : Int) : ∀ f, PT L f := by
 intro f
 induction f with
 | zero => exact ⟨fun i ts acc _ _ _ => by simp only [z92]; exact zek, fun i ts _ _ => by simp only [z9u]; exact zek, fun i ts _ _ => by simp only [sArm]; exact zek, fun i ts acc _ _ _ => by simp only [zda]; exact zek, fun i ts _ _ => by simp only [z9t]; exact zek⟩
 | succ f ih =>
  have sf := sufS L f
  refine ⟨fun i ts acc hi hl ha => ?_, fun i ts hi hl => ?_, fun i ts hi hl => ?_, fun i ts acc hi hl ha => ?_, fun i ts hi hl => ?_⟩
  ·-- statements
   simp only [z92]
   have h1 := ih.stmt i ts hi hl
   refine TP.eq (y := fun n => z0p n (PS L ts 0 i) >>= fun v1 => if (!v1.2.2) then some (v1.1, acc) else app 288 acc [v1.2.1] >>= fun v2 => SL n v1.1 v2) ?_ (fun n => z036 n _ _)
   cases hs : z9u L f i ts with
   | none =>
    rw [hs] at h1
    have h1 : ∀ n, Sn n (2 * f + 6) (z0p n (PS L ts 0 i)) (PS L ts 0 i, zSA, false) := h1
    refine fun _ => ⟨(PS L ts 0 i, acc), by simp [GP, cL], fun n => ((h1 n).mono (show 2 * f + 6 ≤ 2 * (f + 1) + 6 by omega)).bind (f := fun v1 => if (!v1.2.2) then some (v1.1, acc) else app 288 acc [v1.2.1] >>= fun v2 => SL n v1.1 v2) (.inl rfl)⟩
   | some o =>
    rw [hs] at h1
    have h1 : TP L 0 i Prod.fst mkT (2 * f + 6) (fun n => z0p n (PS L ts 0 i)) o := h1
    refine TP.mono (H := 2 * f + 6) ?_ (by omega)
    refine TP.bind (π' := Prod.fst) (mk' := fun v a => (a, acc ++ cL v)) h1 (fun s r ho => ?_) (fun r c p hc he => ?_)
    ·subst ho
     have q := sf.stmt _ _ _ _ hs
     have ql := z4e q.1 hl
     refine TP.eq (y := fun n => SL n (PS L r 0 i) (acc ++ [cS s])) ?_ (fun n => ?_)
     ·refine TP.map (g := fun l => s :: l) (ih.stmts i r (acc ++ [cS s]) hi ql (by simp; omega)) (fun v a => ?_)
      simp [cL]
     ·show (if (!true) then _ else (app 288 acc [cS s]).bind _) = _
      rw [z7u (by simp; omega)]; rfl
    ·have hq : r.1.f_e ≠ 0 := z4o hc he
     cases hb : r.2.2 with
     | false => exact ⟨(r.1, acc), he, fun n => .inl rfl⟩
     | true =>
      refine ⟨(r.1, acc ++ [r.2.1]), he, fun n => ?_⟩
      show Sn n _ (app 288 acc [r.2.1] >>= fun v2 => SL n r.1 v2) _
      rw [z7u (by simp; omega)]
      exact (SL_e hq n _).mono (by omega)
  ·-- a statement
   simp only [z9u]
   cases h1 : z33 (ByteArray.mk #[105, 102]) ts with
   | true =>
    have l0 : ts.tail.length ≤ 2000 := by have := z5k h1; omega
    simp only [if_true]
    refine TP.up (H := 2 * f + 7) (x := fun n => z0z n (PS L ts.tail 0 i) >>= fun v => some (v.1, v.2, true)) rfl (fun n => by simp only [z0p, z8o hl, h1, Option.bind_eq_bind, Option.bind_some, if_true]) ?_
    refine zjo ?_
    refine TP.up (H := 2 * f + 6) (x := fun n => z4z (PS L ts.tail 0 i) >>= fun v1 => z0i n v1.1 >>= fun v2 => z0g v2.1 (ByteArray.mk #[101, 108, 115, 101]) >>= fun v3 => if v3.2 then (z0i n v3.1 >>= fun v4 => some (v4.1, (z03.mk 2 nB nB zA v1.2 v2.2 v4.2 []))) else (some (v3.1, (z03.mk 2 nB nB zA v1.2 v2.2 [] [])))) rfl (fun n => rfl) ?_
    refine TP.bind (π' := Prod.fst) (mk' := mkS) (zv7 l0) (fun c r1 h2 => ?_) (fun r c p hc he => ⟨(bE r.1, .mk 2 nB nB zA r.2 [] [] []), he, fun n => ((zlj (z4o hc he) n).mono (by omega)).bind (f := fun v2 => z0g v2.1 (ByteArray.mk #[101, 108, 115, 101]) >>= fun v3 => if v3.2 then (z0i n v3.1 >>= fun v4 => some (v4.1, (z03.mk 2 nB nB zA r.2 v2.2 v4.2 []))) else (some (v3.1, (z03.mk 2 nB nB zA r.2 v2.2 [] [])))) (.inl (by rw [zei (a := bE r.1) (z4o hc he)]; rfl))⟩)
    have l1 := z4e (zc8 h2).1 l0
    refine TP.bind (π' := Prod.fst) (mk' := mkS) (ih.block i r1 hi l1) (fun b r2 h3 => ?_) (fun r cc p hc he => ⟨(r.1, .mk 2 nB nB zA (cC c) r.2 [] []), he, fun n => .inl (by rw [zei (a := r.1) (z4o hc he)]; rfl)⟩)
    have l2 := z4e (sf.block _ _ _ _ h3) l1
    cases h4 : z33 (ByteArray.mk #[101, 108, 115, 101]) r2 with
    | true =>
     have l3 : r2.tail.length ≤ 2000 := by have := z5k h4; omega
     simp only [if_true]
     refine TP.eq (y := fun n => z0i n (PS L r2.tail 0 i) >>= fun v4 => some (v4.1, (z03.mk 2 nB nB zA (cC c) (cL b) v4.2 []))) ?_ (fun n => by simp only [z8o l2, h4, Option.bind_eq_bind, Option.bind_some, if_true])
     refine TP.bind (π' := Prod.fst) (mk' := mkS) (ih.block i r2.tail hi l3) (fun l r3 h5 => TP.pure (fun n => ?_)) (fun r cc p hc he => ⟨(r.1, .mk 2 nB nB zA (cC c) (cL b) r.2 []), he, fun n => .inl rfl⟩)
     simp only [mkS, cS, cZ, cA]
    | false =>
     simp only [Bool.false_eq_true, if_false]
     refine TP.pure (fun n => ?_)
     simp only [z8o l2, h4, Option.bind_eq_bind, Option.bind_some, Bool.false_eq_true, if_false, mkS, cS, cZ, cA, cL]
   | false =>
   simp only [Bool.false_eq_true, if_false]
   cases h2 : z33 (ByteArray.mk #[119, 104, 105, 108, 101]) ts with
   | true =>
    have l0 : ts.tail.length ≤ 2000 := by have := z5k h2; omega
    simp only [if_true]
    refine TP.up (H := 2 * f + 7) (x := fun n => z1v n (PS L ts.tail 0 i) >>= fun v => some (v.1, v.2, true)) rfl (fun n => by simp only [z0p, z8o hl, h1, h2, Option.bind_eq_bind, Option.bind_some, if_true, Bool.false_eq_true, if_false]) ?_
    refine zjo ?_
    refine TP.up (H := 2 * f + 6) (x := fun n => z4z (PS L ts.tail 0 i) >>= fun v1 => z0i n v1.1 >>= fun v2 => some (v2.1, (z03.mk 3 nB nB zA v1.2 v2.2 [] []))) rfl (fun n => rfl) ?_
    refine TP.bind (π' := Prod.fst) (mk' := mkS) (zv7 l0) (fun c r1 h2 => ?_) (fun r c p hc he => ⟨(bE r.1, .mk 3 nB nB zA r.2 [] [] []), he, fun n => ((zlj (z4o hc he) n).mono (by omega)).bind (f := fun v2 => some (v2.1, (z03.mk 3 nB nB zA r.2 v2.2 [] []))) (.inl rfl)⟩)
    have l1 := z4e (zc8 h2).1 l0
    refine TP.bind (π' := Prod.fst) (mk' := mkS) (ih.block i r1 hi l1) (fun b r2 h3 => TP.pure (fun n => ?_)) (fun r cc p hc he => ⟨(r.1, .mk 3 nB nB zA (cC c) r.2 [] []), he, fun n => .inl rfl⟩)
    simp only [mkS, cS, cZ, cA, cL]
   | false =>
   simp only [Bool.false_eq_true, if_false]
   cases h3 : z33 (ByteArray.mk #[115, 101, 110, 100]) ts with
   | true =>
    have l0 : ts.tail.length ≤ 2000 := by have := z5k h3; omega
    simp only [if_true]
    refine TP.mono (H := 1) ?_ (by omega)
    refine TP.up (H := 0) (x := fun n => z6g (PS L ts.tail 0 i) >>= fun v => some (v.1, v.2, true)) rfl (fun n => by simp only [z0p, z8o hl, h1, h2, h3, Option.bind_eq_bind, Option.bind_some, if_true, Bool.false_eq_true, if_false]) ?_
    exact zjo (z035 l0)
   | false =>
   simp only [Bool.false_eq_true, if_false]
   cases h4 : z33 (ByteArray.mk #[114, 101, 99, 118]) ts with
   | true =>
    have l0 : ts.tail.length ≤ 2000 := by have := z5k h4; omega
    simp only [if_true]
    refine TP.up (H := 2 * f + 7) (x := fun n => z1p n (PS L ts.tail 0 i) >>= fun v => some (v.1, v.2, true)) rfl (fun n => by simp only [z0p, z8o hl, h1, h2, h3, h4, Option.bind_eq_bind, Option.bind_some, if_true, Bool.false_eq_true, if_false]) ?_
    refine zjo ?_
    refine TP.up (H := 2 * f + 6) (x := fun n => z0f (PS L ts.tail 0 i) >>= fun v1 => z05 v1.1 (ByteArray.mk #[123]) >>= fun v2 => z19 n v2 >>= fun v3 => app 56 [] [v3.2] >>= fun v4 => AL n v3.1 v4 >>= fun w => z05 w.1 (ByteArray.mk #[125]) >>= fun v8 => some (v8, (z03.mk 5 v1.2 nB zA zCA [] [] w.2))) rfl (fun n => by
     simp only [z1p, Option.bind_eq_bind]
     congr 1; funext v1
     congr 1; funext v2
     congr 1; funext v3
     congr 1; funext v4
     unfold AL
     rw [Option.bind_eq_bind, Option.bind_assoc]
     show (iter (RB n) (tpA v3.1 v4)).bind _ = (iter (RB n) (tpA v3.1 v4)).bind _
     congr 1; funext o
     cases o <;> rfl) ?_
    have er : ∀ (a : z00) (m : ByteArray), a.f_e ≠ 0 → ∀ n, Sn n (2 * f + 6) (z19 n a >>= fun v3 => app 56 [] [v3.2] >>= fun v4 => AL n v3.1 v4 >>= fun w => z05 w.1 (ByteArray.mk #[125]) >>= fun v8 => some (v8, (z03.mk 5 m nB zA zCA [] [] w.2))) (bE a, .mk 5 m nB zA zCA [] [] [.mk nB nB []]) := fun a m h n => by
     refine ((z04v h n).mono (show 4 ≤ 2 * f + 6 by omega)).bind (f := fun v3 => app 56 [] [v3.2] >>= fun v4 => AL n v3.1 v4 >>= fun w => z05 w.1 (ByteArray.mk #[125]) >>= fun v8 => some (v8, (z03.mk 5 m nB zA zCA [] [] w.2))) (.inl ?_)
     rw [z7u (by simp)]
     show (AL n (bE a) _).bind _ = _
     rw [AL_e (a := bE a) h]
     show (z05 (bE a) _).bind _ = _
     rw [zbw (a := bE a) h]; rfl
    refine TP.bind (π' := Prod.fst) (mk' := mkS) (zay l0) (fun m r1 q1 => ?_) (fun r c p hc he => ⟨(bE r.1, .mk 5 r.2 nB zA zCA [] [] [.mk nB nB []]), he, fun n => by rw [zbw (z4o hc he)]; exact er r.1 r.2 (z4o hc he) n⟩)
    have l1 := z4e (z3q q1).1 l0
    refine TP.bind (π' := Prod.fst) (mk' := mkS) (z74 l1 _) (fun _ r2 q2 => ?_) (fun r c p hc he => ⟨(bE r, .mk 5 m nB zA zCA [] [] [.mk nB nB []]), he, fun n => er r m (z4o hc he) n⟩)
    have l2 := z4e (z2o q2).1 l1
    refine TP.bind (π' := Prod.fst) (mk' := mkS) (ih.arm i r2 hi l2) (fun x r3 q3 => ?_) (fun r c p hc he => ⟨(r.1, .mk 5 m nB zA zCA [] [] [r.2]), he, fun n => .inl (by
     rw [z7u (by simp)]
     show (AL n r.1 _).bind _ = _
     rw [AL_e (z4o hc he)]
     show (z05 r.1 _).bind _ = _
     rw [zbw (z4o hc he)]; rfl)⟩)
    have z3 := sf.arm _ _ _ _ q3
    have l3 := z4e z3.1 l2
    refine TP.eq (y := fun n => AL n (PS L r3 0 i) [cArm x] >>= fun w => z05 w.1 (ByteArray.mk #[125]) >>= fun v8 => some (v8, (z03.mk 5 m nB zA zCA [] [] w.2))) ?_ (fun n => by rw [z7u (by simp)]; rfl)
    refine TP.bind (π' := Prod.fst) (mk' := mkS) (ih.arms i r3 [cArm x] hi l3 (by simp; omega)) (fun l r4 q4 => ?_) (fun r c p hc he => ⟨(r.1, .mk 5 m nB zA zCA [] [] r.2), he, fun n => .inl (by rw [zbw (z4o hc he)]; rfl)⟩)
    have l4 := z4e (sf.arms _ _ _ _ q4) l3
    refine TP.bind (π' := Prod.fst) (mk' := mkS) (z74 l4 _) (fun _ r5 q5 => TP.pure (fun n => ?_)) (fun r c p hc he => ⟨(r, .mk 5 m nB zA zCA [] [] ([cArm x] ++ cA l)), he, fun n => .inl rfl⟩)
    simp only [mkS, cS, cZ, cZC, cL, zyf, List.singleton_append]
   | false =>
   simp only [Bool.false_eq_true, if_false]
   cases h5 : z33 (ByteArray.mk #[97, 115, 115, 101, 114, 116]) ts with
   | true =>
    have l0 : ts.tail.length ≤ 2000 := by have := z5k h5; omega
    simp only [if_true]
    refine TP.mono (H := 1) ?_ (by omega)
    refine TP.up (H := 0) (x := fun n => z5w (PS L ts.tail 0 i) >>= fun v => some (v.1, v.2, true)) rfl (fun n => by simp only [z0p, z8o hl, h1, h2, h3, h4, h5, Option.bind_eq_bind, Option.bind_some, if_true, Bool.false_eq_true, if_false]) ?_
    exact zjo (zx8 l0)
   | false =>
   simp only [Bool.false_eq_true, if_false]
   cases h6 : z33 (ByteArray.mk #[105, 110, 112, 117, 116]) ts with
   | true =>
    have l0 : ts.tail.length ≤ 2000 := by have := z5k h6; omega
    simp only [if_true]
    refine TP.mono (H := 1) ?_ (by omega)
    refine TP.up (H := 0) (x := fun n => z65 (PS L ts.tail 0 i) >>= fun v => some (v.1, v.2, true)) rfl (fun n => by simp only [z0p, z8o hl, h1, h2, h3, h4, h5, h6, Option.bind_eq_bind, Option.bind_some, if_true, Bool.false_eq_true, if_false]) ?_
    exact zjo (z00j l0)
   | false =>
   simp only [Bool.false_eq_true, if_false]
   cases h7 : sOf 1 ts with
   | true =>
    simp only [if_true]
    refine TP.mono (H := 1) ?_ (by omega)
    refine TP.up (H := 0) (x := fun n => z5x (PS L ts 0 i) >>= fun v => some (v.1, v.2, true)) rfl (fun n => by simp only [z0p, z8o hl, of_P, h1, h2, h3, h4, h5, h6, h7, Option.bind_eq_bind, Option.bind_some, if_true, Bool.false_eq_true, if_false]) ?_
    exact zjo (zx9 hl)
   | false =>
    simp only [Bool.false_eq_true, if_false]
    intro n
    cases n with
    | zero => exact .inr ⟨rfl, by omega⟩
    | succ n =>
     refine .inl ?_
     simp only [z0p, z8o hl, of_P, h1, h2, h3, h4, h5, h6, h7, Option.bind_eq_bind, Option.bind_some, Bool.false_eq_true, if_false]
     rfl
  ·-- an arm
   simp only [sArm]
   refine TP.mono (H := 2 * f + 7) ?_ (by omega)
   refine TP.up (H := 2 * f + 6) (x := fun n => z0f (PS L ts 0 i) >>= fun v1 => z05 v1.1 (ByteArray.mk #[40]) >>= fun v2 => z0f v2 >>= fun v3 => z05 v3.1 (ByteArray.mk #[41]) >>= fun v4 => z0i n v4 >>= fun v5 => some (v5.1, (z0m.mk v1.2 v3.2 v5.2))) rfl (fun n => rfl) ?_
   have er : ∀ (a : z00) (s t : ByteArray), a.f_e ≠ 0 → ∀ n, Sn n (2 * f + 6) (z0i n a >>= fun v5 => some (v5.1, (z0m.mk s t v5.2))) (bE a, .mk s t []) := fun a s t h n => ((zlj h n).mono (by omega)).bind (f := fun v5 => some (v5.1, (z0m.mk s t v5.2))) (.inl rfl)
   refine TP.bind (π' := Prod.fst) (mk' := fun v a => (a, cArm v)) (zay hl) (fun t r1 q1 => ?_) (fun r c p hc he => ⟨(bE r.1, .mk r.2 nB []), he, fun n => by
    have h := z4o hc he
    simp only [zbw h, zkm h, Option.bind_eq_bind, Option.bind_some]
    exact er r.1 r.2 nB h n⟩)
   have l1 := z4e (z3q q1).1 hl
   refine TP.bind (π' := Prod.fst) (mk' := fun v a => (a, cArm v)) (z74 l1 _) (fun _ r2 q2 => ?_) (fun r c p hc he => ⟨(bE r, .mk t nB []), he, fun n => by
    have h : r.f_e ≠ 0 := z4o hc he
    simp only [zbw h, zkm h, Option.bind_eq_bind, Option.bind_some]
    exact er r t nB h n⟩)
   have l2 := z4e (z2o q2).1 l1
   refine TP.bind (π' := Prod.fst) (mk' := fun v a => (a, cArm v)) (zay l2) (fun w r3 q3 => ?_) (fun r c p hc he => ⟨(bE r.1, .mk t r.2 []), he, fun n => by
    have h := z4o hc he
    simp only [zbw h, Option.bind_eq_bind, Option.bind_some]
    exact er r.1 t r.2 h n⟩)
   have l3 := z4e (z3q q3).1 l2
   refine TP.bind (π' := Prod.fst) (mk' := fun v a => (a, cArm v)) (z74 l3 _) (fun _ r4 q4 => ?_) (fun r c p hc he => ⟨(bE r, .mk t w []), he, fun n => er r t w (z4o hc he) n⟩)
   have l4 := z4e (z2o q4).1 l3
   refine TP.bind (π' := Prod.fst) (mk' := fun v a => (a, cArm v)) (ih.block i r4 hi l4) (fun b r5 q5 => TP.pure (fun n => rfl)) (fun r c p hc he => ⟨(r.1, .mk t w r.2), he, fun n => .inl rfl⟩)
  ·-- arms
   simp only [zda]
   refine TP.eq (y := fun n => if z33 (ByteArray.mk #[125]) ts then some (PS L ts 0 i, acc) else z19 n (PS L ts 0 i) >>= fun v => app 56 acc [v.2] >>= fun v2 => AL n v.1 v2) ?_ (fun n => z04u n acc)
   cases h1 : z33 (ByteArray.mk #[125]) ts with
   | true =>
    simp only [if_true]
    exact TP.pure (fun n => by simp [cA])
   | false =>
    simp only [Bool.false_eq_true, if_false]
    refine TP.mono (H := 2 * f + 6) ?_ (by omega)
    refine TP.bind (π' := Prod.fst) (mk' := fun v a => (a, acc ++ cA v)) (ih.arm i ts hi hl) (fun x r ho => ?_) (fun r c p hc he => ⟨(r.1, acc ++ [r.2]), he, fun n => .inl (by
     rw [z7u (by simp; omega)]
     exact AL_e (z4o hc he) n _)⟩)
    have q := sf.arm _ _ _ _ ho
    have ql := z4e q.1 hl
    refine TP.eq (y := fun n => AL n (PS L r 0 i) (acc ++ [cArm x])) ?_ (fun n => ?_)
    ·refine TP.map (g := fun l => x :: l) (ih.arms i r (acc ++ [cArm x]) hi ql (by simp; omega)) (fun v a => ?_)
     simp [zyf]
    ·show (app 56 acc [cArm x]).bind _ = _
     rw [z7u (by simp; omega)]; rfl
  ·-- a block
   simp only [z9t]
   cases h1 : (z33 (ByteArray.mk #[123]) ts && decide (i = 24)) with
   | true =>
    simp only [Bool.and_eq_true, decide_eq_true_eq] at h1
    simp only [if_true]
    obtain ⟨h1, h2⟩ := h1
    subst h2
    refine TP.mono (H := 1) ?_ (by omega)
    refine TP.up (H := 0) (x := fun n => some (⟨ts.map tokT, L, 6, sAt L ts, 0, 24⟩, [])) rfl (fun n => by
     simp only [z0i, zfh, h1, Option.bind_eq_bind, Option.bind_some, if_true, zjn]
     rfl) ?_
    exact TP.err (fun n => rfl) (by decide) ⟨rfl, rfl⟩
   | false =>
    simp only [Bool.false_eq_true, if_false]
    have hj : (if z33 (ByteArray.mk #[123]) ts then some ((PS L ts 0 i).f_in == 24) else some false) = some false := by
     cases hs : z33 (ByteArray.mk #[123]) ts with
     | false => rfl
     | true =>
      rw [hs] at h1
      have h1 : decide (i = 24) = false := h1
      have : ((i : Int) == 24) = false := by simp at h1 ⊢; omega
      show some ((i : Int) == 24) = _
      rw [this]
    refine TP.mono (H := 2 * f + 8) ?_ (by omega)
    refine TP.up (H := 2 * f + 7) (x := fun n => z05 (PS L ts 0 i) (ByteArray.mk #[123]) >>= fun v3 => z13 n (z00.mk v3.f_l v3.f_end v3.f_e v3.f_at v3.f_deep (IntKind.i64.wrap (v3.f_in + 1))) >>= fun v4 => z05 (z00.mk v4.1.f_l v4.1.f_end v4.1.f_e v4.1.f_at v4.1.f_deep (IntKind.i64.wrap (v4.1.f_in - 1))) (ByteArray.mk #[125]) >>= fun v5 => some (v5, v4.2)) rfl (fun n => by
     simp only [z0i, zfh, Option.bind_eq_bind, Option.bind_some, hj, Bool.false_eq_true, if_false]) ?_
    refine TP.bind (π' := Prod.fst) (mk' := mkL) (z74 hl _) (fun _ r1 q1 => ?_) (fun r c p hc he => ⟨(bE r, []), he, fun n => by
     have h : r.f_e ≠ 0 := z4o hc he
     refine ((zp1 (a := ⟨r.f_l, r.f_end, r.f_e, r.f_at, r.f_deep, IntKind.i64.wrap (r.f_in + 1)⟩) h n).mono (by omega)).bind (f := fun v4 : z00 × List z03 => z05 (z00.mk v4.1.f_l v4.1.f_end v4.1.f_e v4.1.f_at v4.1.f_deep (IntKind.i64.wrap (v4.1.f_in - 1))) (ByteArray.mk #[125]) >>= fun v5 => some (v5, v4.2)) (.inl ?_)
     show (z05 (bE r) (ByteArray.mk #[125])).bind _ = _
     rw [zbw (a := bE r) h]; rfl⟩)
    have l1 := z4e (z2o q1).1 hl
    have hi' : i + 1 ≤ 24 := by
     have hs : z33 (ByteArray.mk #[123]) ts = true := by
      unfold z7l at q1
      split at q1
      ·assumption
      ·cases q1
     rw [hs] at h1
     have h1 : decide (i = 24) = false := h1
     simp at h1; omega
    have w1 : IntKind.i64.wrap ((PS L r1 0 i).f_in + 1) = ((i + 1 : Nat) : Int) := by
     show IntKind.i64.wrap ((i : Int) + 1) = _
     rw [w64 (by omega) (by omega)]; omega
    have hsl : TP L 0 ((i + 1 : Nat) : Int) Prod.fst mkL (2 * f + 7) (fun n => z13 n (PS L r1 0 ((i + 1 : Nat) : Int))) (z92 L f (i + 1) r1) := TP.up (x := fun n => SL n (PS L r1 0 ((i + 1 : Nat) : Int)) []) rfl (fun n => rfl) (by
     have := ih.stmts (i + 1) r1 [] hi' l1 (by simpa using l1)
     simpa using this)
    refine TP.eq (y := fun n => z13 n (PS L r1 0 ((i + 1 : Nat) : Int)) >>= fun v4 => z05 (z00.mk v4.1.f_l v4.1.f_end v4.1.f_e v4.1.f_at v4.1.f_deep (IntKind.i64.wrap (v4.1.f_in - 1))) (ByteArray.mk #[125]) >>= fun v5 => some (v5, v4.2)) ?_ (fun n => by
     show z13 n ⟨r1.map tokT, L, 0, 0, 0, IntKind.i64.wrap ((PS L r1 0 i).f_in + 1)⟩ >>= _ = _
     rw [w1]; rfl)
    refine TP.bind (π' := Prod.fst) (mk' := mkL) hsl (fun b r2 q2 => ?_) (fun r c p hc he => ⟨(⟨r.1.f_l, r.1.f_end, r.1.f_e, r.1.f_at, r.1.f_deep, IntKind.i64.wrap (r.1.f_in - 1)⟩, r.2), he, fun n => .inl (by
     rw [zbw (a := ⟨r.1.f_l, r.1.f_end, r.1.f_e, r.1.f_at, r.1.f_deep, IntKind.i64.wrap (r.1.f_in - 1)⟩) (z4o hc he)]; rfl)⟩)
    have l2 := z4e (sf.stmts _ _ _ _ q2) l1
    have w2 : IntKind.i64.wrap ((PS L r2 0 ((i + 1 : Nat) : Int)).f_in - 1) = (i : Int) := by
     show IntKind.i64.wrap (((i + 1 : Nat) : Int) - 1) = _
     rw [w64 (by omega) (by omega)]; omega
    refine TP.eq (y := fun n => z05 (PS L r2 0 i) (ByteArray.mk #[125]) >>= fun v5 => some (v5, cL b)) ?_ (fun n => by
     show z05 ⟨r2.map tokT, L, 0, 0, 0, IntKind.i64.wrap ((PS L r2 0 ((i + 1 : Nat) : Int)).f_in - 1)⟩ _ >>= _ = _
     rw [w2]; rfl)
    exact TP.bind (π' := Prod.fst) (mk' := mkL) (z74 l2 _) (fun _ r3 q3 => TP.pure (fun n => rfl)) (fun r c p hc he => ⟨(r, cL b), he, fun n => .inl rfl⟩)
end Go.Proofs.YtokjbpmjdcbogaaGreatDoor.Abs.Par
/- The program's reader reads channels, rules, processes and whole systems as parsing does. -/
namespace Go.Proofs.YtokjbpmjdcbogaaGreatDoor.Abs.Par
open Go Go.RowKit Wri
set_option linter.unusedVariables false
set_option linter.unusedSimpArgs false
/-! ### Many of a kind -/
def zbz {α : Type} (more : List Tok → Option (Rs α)) : Nat → List Tok → Rs (List α)
 | 0, _ => .out
 | f + 1, ts => match more ts with
  | none => .ok [] ts
  | some o => o.bind fun v r => (zbz more f r).bind fun l r' => .ok (v :: l) r'
structure More {α : Type} (more : List Tok → Option (Rs α)) : Prop where
 suf : ∀ ts v r, more ts = some (.ok v r) → r <:+ ts ∧ r.length < ts.length
 ne : ∀ ts, more ts ≠ some .out
theorem zc9 {α : Type} {more : List Tok → Option (Rs α)} (m : More more) : ∀ f ts v r, zbz more f ts = .ok v r → r <:+ ts := by
 intro f
 induction f with
 | zero => intro ts v r h; cases h
 | succ f ih =>
  intro ts v r h
  simp only [zbz] at h
  split at h
  ·injection h with _ h; subst h; exact List.suffix_refl _
  ·rename_i o ho
   obtain ⟨s, r1, h1, h0⟩ := bind_ok h
   obtain ⟨l, r2, h2, h3⟩ := bind_ok h0
   injection h3 with _ h3; subst h3; subst h1
   exact (ih _ _ _ h2).trans (m.suf _ _ _ ho).1
theorem zhu {α : Type} {more : List Tok → Option (Rs α)} (m : More more) : ∀ f ts, ts.length + 1 ≤ f → zbz more f ts ≠ .out := by
 intro f
 induction f with
 | zero => intro ts h; omega
 | succ f ih =>
  intro ts hf h
  simp only [zbz] at h
  split at h
  ·cases h
  ·rename_i o ho
   rcases z14 h with h0 | ⟨s, r1, h1, h0⟩
   ·subst h0; exact m.ne _ ho
   ·subst h1
    have := (m.suf _ _ _ ho).2
    rcases z14 h0 with h2 | ⟨l, r2, h2, h3⟩
    ·exact ih _ (by omega) h2
    ·cases h3
abbrev T7 (β : Type) := List z0e × Int × Int × Int × Int × Int × List β
def tp7 {β : Type} (a : z00) (l : List β) : T7 β := (a.f_l, a.f_end, a.f_e, a.f_at, a.f_deep, a.f_in, l)
noncomputable def LF {β O : Type} (body : T7 β → Option (Sum (T7 β) (Sum O (T7 β)))) (a : z00) (l : List β) : Option (z00 × List β) :=
 iter body (tp7 a l) >>= Sum.elim (fun _ => none) (fun j1 => some (⟨j1.1, j1.2.1, j1.2.2.1, j1.2.2.2.1, j1.2.2.2.2.1, j1.2.2.2.2.2.1⟩, j1.2.2.2.2.2.2))
section
variable {β O : Type} {body : T7 β → Option (Sum (T7 β) (Sum O (T7 β)))} {a : z00} {l : List β}
theorem zi5 (h : body (tp7 a l) = some (.inr (.inr (tp7 a l)))) : LF body a l = some (a, l) := by unfold LF; rw [z6r h]; rfl
theorem z00k {x : Option (z00 × List β)} (h : body (tp7 a l) = x >>= fun v => some (.inl (tp7 v.1 v.2))) : LF body a l = x >>= fun v => LF body v.1 v.2 := by
 unfold LF
 rw [zbl, h]
 simp only [Option.bind_eq_bind, Option.bind_assoc]
 congr 1
theorem zqi {ρ : Type} (k : z00 × List β → Option ρ) : iter body (tp7 a l) >>= Sum.elim (fun _ => none) (fun j1 => k (⟨j1.1, j1.2.1, j1.2.2.1, j1.2.2.2.1, j1.2.2.2.2.1, j1.2.2.2.2.2.1⟩, j1.2.2.2.2.2.2)) = LF body a l >>= k := by
 unfold LF
 simp only [Option.bind_eq_bind, Option.bind_assoc]
 congr 1; funext o
 cases o <;> rfl
end
theorem zkn {β γ O : Type} {L d i : Int} {body : T7 β → Option (Sum (T7 β) (Sum O (T7 β)))} {more : List Tok → Option (Rs γ)} {cv : γ → β} (m : More more)
  (h0 : ∀ ts l, ts.length ≤ 2000 → more ts = none → body (tp7 (PS L ts d i) l) = some (.inr (.inr (tp7 (PS L ts d i) l))))
  (h1 : ∀ ts o, ts.length ≤ 2000 → more ts = some o → ∃ x, TP L d i Prod.fst (fun v a => (a, cv v)) 0 (fun _ => x) o ∧ ∀ l : List β, l.length ≤ 2000 → body (tp7 (PS L ts d i) l) = x >>= fun v => some (.inl (tp7 v.1 (l ++ [v.2]))))
  (h2 : ∀ a l, a.f_e ≠ 0 → body (tp7 a l) = some (.inr (.inr (tp7 a l)))) :
  ∀ f ts (l : List β), ts.length ≤ 2000 → l.length + ts.length ≤ 2000 → TP L d i Prod.fst (fun (v : List γ) a => (a, l ++ v.map cv)) 0 (fun _ => LF body (PS L ts d i) l) (zbz more f ts) := by
 intro f
 induction f with
 | zero => intro ts l _ _; exact zek
 | succ f ih =>
  intro ts l ht hl
  simp only [zbz]
  cases hm : more ts with
  | none => exact TP.pure (fun n => by rw [zi5 (h0 ts l ht hm)]; simp)
  | some o =>
   obtain ⟨x, hx, hb⟩ := h1 ts o ht hm
   refine TP.eq (y := fun _ => x >>= fun v => LF body v.1 (l ++ [v.2])) ?_ (fun n => by
    rw [z00k (x := x >>= fun v => some (v.1, l ++ [v.2])) (by rw [hb l (by omega)]; simp only [Option.bind_eq_bind, Option.bind_assoc, Option.bind_some])]
    simp only [Option.bind_eq_bind, Option.bind_assoc, Option.bind_some])
   refine TP.bind (π' := Prod.fst) (mk' := fun (v : List γ) a => (a, l ++ v.map cv)) hx (fun v r ho => ?_) (fun r c p hc he => ⟨(r.1, l ++ [r.2]), he, fun n => .inl (zi5 (h2 r.1 _ (z4o hc he)))⟩)
   subst ho
   have q := m.suf _ _ _ hm
   refine TP.map (g := fun w => v :: w) (ih r (l ++ [cv v]) (z4e q.1 ht) (by simp; omega)) (fun w a => by simp)
/-! ### What channels, rules, processes and systems are -/
section
variable (L : Int)
def zs9 : List ByteArray := [(ByteArray.mk #[98, 108, 111, 99, 107]), (ByteArray.mk #[100, 114, 111, 112]), (ByteArray.mk #[108, 111, 115, 115, 121])]
def mTag (ts : List Tok) : Option (Rs ByteArray) := if z33 (ByteArray.mk #[44]) ts then some (zai L ts.tail) else none
def zn1 (ts : List Tok) : Rs z9x := (zai L ts).bind fun n r1 => match z56 zs9 r1 with
 | none => .er 5 (sAt L r1)
 | some j => (sNum L r1.tail).bind fun z r2 => (z7l L (ByteArray.mk #[102, 114, 111, 109]) r2).bind fun _ r3 => (zai L r3).bind fun a r4 => (z7l L (ByteArray.mk #[116, 111]) r4).bind fun _ r5 => (zai L r5).bind fun b r6 =>
  (z7l L (ByteArray.mk #[123]) r6).bind fun _ r7 => (zai L r7).bind fun t r8 => (zbz (mTag L) (r8.length + 1) r8).bind fun l r9 => (z7l L (ByteArray.mk #[125]) r9).bind fun _ r10 => (z7l L (ByteArray.mk #[59]) r10).bind fun _ r11 => .ok ⟨n, (j : Int), z, a, b, t :: l⟩ r11
def zn2 (ts : List Tok) : Rs z96 := (sNum L ts).bind fun a r1 => (zai L r1).bind fun t r2 => (sNum L r2).bind fun b r3 => (z7l L (ByteArray.mk #[59]) r3).bind fun _ r4 => .ok ⟨a, t, b⟩ r4
def zk4 (ts : List Tok) : Option (Rs z96) := if z33 (ByteArray.mk #[125]) ts then none else some (zn2 L ts)
def zn3 (ts : List Tok) : Rs z9y := (zai L ts).bind fun n r1 => (z7l L (ByteArray.mk #[123]) r1).bind fun _ r2 => (zbz (zk4 L) (r2.length + 1) r2).bind fun l r3 => (z7l L (ByteArray.mk #[125]) r3).bind fun _ r4 => .ok ⟨n, l⟩ r4
def mVar (ts : List Tok) : Option (Rs ByteArray) := if z33 (ByteArray.mk #[118, 97, 114]) ts then some ((zai L ts.tail).bind fun n r1 => (z7l L (ByteArray.mk #[59]) r1).bind fun _ r2 => .ok n r2) else none
def zmy (ts : List Tok) : Rs (List z0t) := z92 L (3 * ts.length + 2) 0 ts
def zn5 (ts : List Tok) : Rs z9z := (zai L ts).bind fun n r1 => (z7l L (ByteArray.mk #[123]) r1).bind fun _ r2 => (zbz (mVar L) (r2.length + 1) r2).bind fun l r3 => (zmy L r3).bind fun b r4 => (z7l L (ByteArray.mk #[125]) r4).bind fun _ r5 => .ok ⟨n, l, b⟩ r5
def zjh (ts : List Tok) : Option (Rs z9x) := if z33 (ByteArray.mk #[99, 104, 97, 110]) ts then some (zn1 L ts.tail) else none
def zji (ts : List Tok) : Option (Rs z9y) := if z33 (ByteArray.mk #[114, 117, 108, 101]) ts then some (zn3 L ts.tail) else none
def zjk (ts : List Tok) : Option (Rs z9z) := if z33 (ByteArray.mk #[112, 114, 111, 99]) ts then some (zn5 L ts.tail) else none
def sSys (ts : List Tok) : Rs z43 := (zbz (zjh L) (ts.length + 1) ts).bind fun c r1 => (zbz (zji L) (r1.length + 1) r1).bind fun r r2 => (zbz (zjk L) (r2.length + 1) r2).bind fun p r3 => .ok ⟨c, r, p⟩ r3
/-- A whole text's words. -/
def sAll (ts : List Tok) : Rs z43 := (sSys L ts).bind fun v r => match r with | [] => .ok v [] | t :: _ => .er 5 (t.at_ : Int)
end
section
variable {L : Int}
theorem zn0 : More (mTag L) where
 suf := fun ts v r h => by
  unfold mTag at h; split at h
  ·rename_i hs; injection h with h; exact z98 hs (z3q h).1
  ·cases h
 ne := fun ts h => by
  unfold mTag at h; split at h
  ·injection h with h; exact z89 h
  ·cases h
theorem zxa {ts r : List Tok} {v : z9x} (h : zn1 L ts = .ok v r) : r <:+ ts := by
 unfold zn1 at h
 obtain ⟨_, r1, h1, h⟩ := bind_ok h
 split at h
 ·cases h
 rename_i j hj
 obtain ⟨_, r2, h2, h⟩ := bind_ok h
 obtain ⟨_, r3, h3, h⟩ := bind_ok h
 obtain ⟨_, r4, h4, h⟩ := bind_ok h
 obtain ⟨_, r5, h5, h⟩ := bind_ok h
 obtain ⟨_, r6, h6, h⟩ := bind_ok h
 obtain ⟨_, r7, h7, h⟩ := bind_ok h
 obtain ⟨_, r8, h8, h⟩ := bind_ok h
 obtain ⟨_, r9, h9, h⟩ := bind_ok h
 obtain ⟨_, r10, h10, h⟩ := bind_ok h
 obtain ⟨_, r11, h11, h⟩ := bind_ok h
 injection h with _ h; subst h
 exact (z2o h11).1.trans ((z2o h10).1.trans ((zc9 zn0 _ _ _ _ h9).trans ((z3q h8).1.trans ((z2o h7).1.trans ((z3q h6).1.trans ((z2o h5).1.trans ((z3q h4).1.trans ((z2o h3).1.trans ((zej h2).1.trans ((List.tail_suffix r1).trans (z3q h1).1))))))))))
theorem z00l {ts : List Tok} : zn1 L ts ≠ .out := fun h => by
 unfold zn1 at h
 rcases z14 h with h | ⟨_, _, _, h⟩
 ·exact z89 h
 split at h
 ·cases h
 rcases z14 h with h | ⟨_, _, _, h⟩
 ·exact zqg h
 rcases z14 h with h | ⟨_, _, _, h⟩
 ·exact z5o h
 rcases z14 h with h | ⟨_, _, _, h⟩
 ·exact z89 h
 rcases z14 h with h | ⟨_, _, _, h⟩
 ·exact z5o h
 rcases z14 h with h | ⟨_, _, _, h⟩
 ·exact z89 h
 rcases z14 h with h | ⟨_, _, _, h⟩
 ·exact z5o h
 rcases z14 h with h | ⟨_, _, _, h⟩
 ·exact z89 h
 rcases z14 h with h | ⟨_, _, _, h⟩
 ·exact zhu zn0 _ _ (Nat.le_refl _) h
 rcases z14 h with h | ⟨_, _, _, h⟩
 ·exact z5o h
 rcases z14 h with h | ⟨_, _, _, h⟩
 ·exact z5o h
 ·cases h
theorem zxb {ts r : List Tok} {v : z96} (h : zn2 L ts = .ok v r) : r <:+ ts ∧ r.length < ts.length := by
 unfold zn2 at h
 obtain ⟨_, r1, h1, h⟩ := bind_ok h
 obtain ⟨_, r2, h2, h⟩ := bind_ok h
 obtain ⟨_, r3, h3, h⟩ := bind_ok h
 obtain ⟨_, r4, h4, h⟩ := bind_ok h
 injection h with _ h; subst h
 exact zp0 ((z2o h4).1.trans ((zej h3).1.trans (z3q h2).1)) (zej h1).1 (zej h1).2
theorem z00m {ts : List Tok} : zn2 L ts ≠ .out := fun h => by
 unfold zn2 at h
 rcases z14 h with h | ⟨_, _, _, h⟩
 ·exact zqg h
 rcases z14 h with h | ⟨_, _, _, h⟩
 ·exact z89 h
 rcases z14 h with h | ⟨_, _, _, h⟩
 ·exact zqg h
 rcases z14 h with h | ⟨_, _, _, h⟩
 ·exact z5o h
 ·cases h
theorem zjj : More (zk4 L) where
 suf := fun ts v r h => by
  unfold zk4 at h; split at h
  ·cases h
  ·injection h with h; exact zxb h
 ne := fun ts h => by
  unfold zk4 at h; split at h
  ·cases h
  ·injection h with h; exact z00m h
theorem zxc {ts r : List Tok} {v : z9y} (h : zn3 L ts = .ok v r) : r <:+ ts := by
 unfold zn3 at h
 obtain ⟨_, r1, h1, h⟩ := bind_ok h
 obtain ⟨_, r2, h2, h⟩ := bind_ok h
 obtain ⟨_, r3, h3, h⟩ := bind_ok h
 obtain ⟨_, r4, h4, h⟩ := bind_ok h
 injection h with _ h; subst h
 exact (z2o h4).1.trans ((zc9 zjj _ _ _ _ h3).trans ((z2o h2).1.trans (z3q h1).1))
theorem z00n {ts : List Tok} : zn3 L ts ≠ .out := fun h => by
 unfold zn3 at h
 rcases z14 h with h | ⟨_, _, _, h⟩
 ·exact z89 h
 rcases z14 h with h | ⟨_, _, _, h⟩
 ·exact z5o h
 rcases z14 h with h | ⟨_, _, _, h⟩
 ·exact zhu zjj _ _ (Nat.le_refl _) h
 rcases z14 h with h | ⟨_, _, _, h⟩
 ·exact z5o h
 ·cases h
theorem zn4 : More (mVar L) where
 suf := fun ts v r h => by
  unfold mVar at h; split at h
  ·rename_i hs; injection h with h
   obtain ⟨_, r1, h1, h⟩ := bind_ok h
   obtain ⟨_, r2, h2, h⟩ := bind_ok h
   injection h with _ h; subst h
   exact z98 hs ((z2o h2).1.trans (z3q h1).1)
  ·cases h
 ne := fun ts h => by
  unfold mVar at h; split at h
  ·injection h with h
   rcases z14 h with h | ⟨_, _, _, h⟩
   ·exact z89 h
   rcases z14 h with h | ⟨_, _, _, h⟩
   ·exact z5o h
   ·cases h
  ·cases h
theorem zqj {ts r : List Tok} {v : List z0t} (h : zmy L ts = .ok v r) : r <:+ ts := (sufS L _).stmts _ _ _ _ h
theorem zuk {ts : List Tok} : zmy L ts ≠ .out := (fuS L _).stmts _ _ (Nat.le_refl _)
theorem zxd {ts r : List Tok} {v : z9z} (h : zn5 L ts = .ok v r) : r <:+ ts := by
 unfold zn5 at h
 obtain ⟨_, r1, h1, h⟩ := bind_ok h
 obtain ⟨_, r2, h2, h⟩ := bind_ok h
 obtain ⟨_, r3, h3, h⟩ := bind_ok h
 obtain ⟨_, r4, h4, h⟩ := bind_ok h
 obtain ⟨_, r5, h5, h⟩ := bind_ok h
 injection h with _ h; subst h
 exact (z2o h5).1.trans ((zqj h4).trans ((zc9 zn4 _ _ _ _ h3).trans ((z2o h2).1.trans (z3q h1).1)))
theorem z00o {ts : List Tok} : zn5 L ts ≠ .out := fun h => by
 unfold zn5 at h
 rcases z14 h with h | ⟨_, _, _, h⟩
 ·exact z89 h
 rcases z14 h with h | ⟨_, _, _, h⟩
 ·exact z5o h
 rcases z14 h with h | ⟨_, _, _, h⟩
 ·exact zhu zn4 _ _ (Nat.le_refl _) h
 rcases z14 h with h | ⟨_, _, _, h⟩
 ·exact zuk h
 rcases z14 h with h | ⟨_, _, _, h⟩
 ·exact z5o h
 ·cases h
theorem zla : More (zjh L) where
 suf := fun ts v r h => by
  unfold zjh at h; split at h
  ·rename_i hs; injection h with h; exact z98 hs (zxa h)
  ·cases h
 ne := fun ts h => by
  unfold zjh at h; split at h
  ·injection h with h; exact z00l h
  ·cases h
theorem zlb : More (zji L) where
 suf := fun ts v r h => by
  unfold zji at h; split at h
  ·rename_i hs; injection h with h; exact z98 hs (zxc h)
  ·cases h
 ne := fun ts h => by
  unfold zji at h; split at h
  ·injection h with h; exact z00n h
  ·cases h
theorem zox : More (zjk L) where
 suf := fun ts v r h => by
  unfold zjk at h; split at h
  ·rename_i hs; injection h with h; exact z98 hs (zxd h)
  ·cases h
 ne := fun ts h => by
  unfold zjk at h; split at h
  ·injection h with h; exact z00o h
  ·cases h
theorem zyg {ts : List Tok} : sSys L ts ≠ .out := fun h => by
 unfold sSys at h
 rcases z14 h with h | ⟨_, _, _, h⟩
 ·exact zhu zla _ _ (Nat.le_refl _) h
 rcases z14 h with h | ⟨_, _, _, h⟩
 ·exact zhu zlb _ _ (Nat.le_refl _) h
 rcases z14 h with h | ⟨_, _, _, h⟩
 ·exact zhu zox _ _ (Nat.le_refl _) h
 ·cases h
end
/-! ### Errors -/
section
variable {a : z00} (h : a.f_e ≠ 0)
include h
theorem zxe : z1o a [(ByteArray.mk #[98, 108, 111, 99, 107]), (ByteArray.mk #[100, 114, 111, 112]), (ByteArray.mk #[108, 111, 115, 115, 121])] = some (a, -1) := zv3 h _ (by decide)
theorem zxf : z66 a = some (a, []) := Sn.unf fun n => zp1 h n
theorem zyh (l : List ByteArray) : z24 (tp7 a l) = some (.inr (.inr (tp7 a l))) := by
 unfold z24
 show (z0g a _ >>= _) = _
 rw [zei h]; rfl
theorem zyi (l : List z3s) : z39 (tp7 a l) = some (.inr (.inr (tp7 a l))) := by
 unfold z39
 rw [if_neg (by simpa [tp7] using h)]; rfl
theorem zyj (l : List ByteArray) : z3a (tp7 a l) = some (.inr (.inr (tp7 a l))) := by
 unfold z3a
 show (z0g a _ >>= _) = _
 rw [zei h]; rfl
theorem z038 (l : List z23) : z5y (tp7 a l) = some (.inr (.inr (tp7 a l))) := by
 unfold z5y
 show (z0g a _ >>= _) = _
 rw [zei h]; rfl
theorem zyk (l : List z2g) : z5z (tp7 a l) = some (.inr (.inr (tp7 a l))) := by
 unfold z5z
 show (z0g a _ >>= _) = _
 rw [zei h]; rfl
theorem zv8 (l : List z2h) : z5e (tp7 a l) = some (.inr (.inr (tp7 a l))) := by
 unfold z5e
 show (z0g a _ >>= _) = _
 rw [zei h]; rfl
theorem z039 (l : List ByteArray) : LF z24 a l = some (a, l) := zi5 (zyh h l)
theorem z03a (l : List z3s) : LF z39 a l = some (a, l) := zi5 (zyi h l)
theorem z03b (l : List ByteArray) : LF z3a a l = some (a, l) := zi5 (zyj h l)
end
theorem eQ {a : z00} (h : a.f_e ≠ 0) : (∀ w, z05 a w = some a) ∧ z0f a = some (a, ByteArray.mk #[]) ∧ z1z a = some (a, 0) ∧ (∀ c, z29 a c = some a) ∧ (∀ l, LF z24 a l = some (a, l)) ∧ (∀ l, LF z39 a l = some (a, l)) ∧ (∀ l, LF z3a a l = some (a, l)) ∧ z66 a = some (a, []) := ⟨zbw h, zkm h, z030 h, zkl h, z039 h, z03a h, z03b h, zxf h⟩
theorem z4w (x : ByteArray) : app 16 [] [x] = some [x] := rfl
theorem z8a (a : z00) : z00.mk a.f_l a.f_end a.f_e a.f_at a.f_deep a.f_in = a := rfl
/-! ### The program's -/
instance : Inhabited z3s := ⟨⟨0, nB, 0⟩⟩
instance : Inhabited z23 := ⟨⟨nB, 0, 0, nB, nB, []⟩⟩
instance : Inhabited z2g := ⟨⟨nB, []⟩⟩
instance : Inhabited z2h := ⟨⟨nB, [], []⟩⟩
theorem z00p (a : z00) : z5l a = z0f a >>= fun v1 => z1o v1.1 [(ByteArray.mk #[98, 108, 111, 99, 107]), (ByteArray.mk #[100, 114, 111, 112]), (ByteArray.mk #[108, 111, 115, 115, 121])] >>= fun v2 =>
  if (decide (v2.2 < 0)) then (z29 v2.1 5 >>= fun v3 => some (v3, (z23.mk v1.2 v2.2 0 (ByteArray.mk #[]) (ByteArray.mk #[]) [])))
  else (z1z v2.1 >>= fun v4 => z05 v4.1 (ByteArray.mk #[102, 114, 111, 109]) >>= fun v5 => z0f v5 >>= fun v6 => z05 v6.1 (ByteArray.mk #[116, 111]) >>= fun v7 => z0f v7 >>= fun v8 => z05 v8.1 (ByteArray.mk #[123]) >>= fun v9 =>
   z0f v9 >>= fun v10 => app 16 [] [v10.2] >>= fun v11 => LF z24 v10.1 v11 >>= fun w => z05 w.1 (ByteArray.mk #[125]) >>= fun v15 => z05 v15 (ByteArray.mk #[59]) >>= fun v16 => some (v16, (z23.mk v1.2 v2.2 v4.2 v6.2 v8.2 w.2))) := by
 simp only [← zqi]; rfl
theorem z00q (a : z00) : z6f a = z0f a >>= fun v1 => z05 v1.1 (ByteArray.mk #[123]) >>= fun v2 => LF z39 v2 [] >>= fun w => z05 w.1 (ByteArray.mk #[125]) >>= fun v9 => some (v9, (z2g.mk v1.2 w.2)) := by
 simp only [← zqi]; rfl
theorem z00r (a : z00) : z6h a = z0f a >>= fun v1 => z05 v1.1 (ByteArray.mk #[123]) >>= fun v2 => LF z3a v2 [] >>= fun w => z66 w.1 >>= fun v7 => z05 v7.1 (ByteArray.mk #[125]) >>= fun v8 => some (v8, (z2h.mk v1.2 w.2 v7.2)) := by
 simp only [← zqi]; rfl
abbrev mkCh : z9x → z00 → z00 × z23 := fun v a => (a, cCh v)
abbrev mkMo : z96 → z00 → z00 × z3s := fun v a => (a, cMo v)
abbrev mkRu : z9y → z00 → z00 × z2g := fun v a => (a, cRu v)
abbrev mkPr : z9z → z00 → z00 × z2h := fun v a => (a, cPr v)
section
variable {L i : Int}
theorem z03c {ts : List Tok} {t : ByteArray} (hl : ts.length + 1 ≤ 2000) : TP L 0 i Prod.fst (fun v a => (a, [t] ++ v.map id)) 0 (fun _ => LF z24 (PS L ts 0 i) [t]) (zbz (mTag L) (ts.length + 1) ts) := by
 refine zkn (cv := id) zn0 (fun ts l ht hm => ?_) (fun ts o ht hm => ?_) (fun a l h => zyh h l) _ ts [t] (by omega) (by simp; omega)
 ·unfold mTag at hm
  cases hs : z33 (ByteArray.mk #[44]) ts with
  | true => rw [hs] at hm; cases hm
  | false =>
   unfold z24
   show (z0g (PS L ts 0 i) _ >>= _) = _
   rw [z8o ht, hs]; rfl
 ·unfold mTag at hm
  cases hs : z33 (ByteArray.mk #[44]) ts with
  | false => rw [hs] at hm; cases hm
  | true =>
   rw [hs] at hm; injection hm with hm; subst hm
   have l0 : ts.tail.length ≤ 2000 := by have := z5k hs; omega
   refine ⟨z0f (PS L ts.tail 0 i), zay l0, fun l hll => ?_⟩
   unfold z24
   show (z0g (PS L ts 0 i) _ >>= _) = _
   rw [z8o ht, hs]
   simp only [Option.bind_eq_bind, Option.bind_some, if_true]
   congr 1; funext v
   show (app 16 l [v.2]).bind _ = _
   rw [z7u (by simp; omega)]; rfl
theorem z03d {ts : List Tok} {H : Nat} (hl : ts.length ≤ 2000) : TP L 0 i Prod.fst mkCh H (fun _ => z5l (PS L ts 0 i)) (zn1 L ts) := by
 refine TP.eq (y := fun _ => _) ?_ (fun _ => z00p _)
 unfold zn1
 refine TP.bind (π' := Prod.fst) (mk' := mkCh) (zay hl) (fun m r1 h1 => ?_) (fun r c p hc he => z40 (by simp only [zxe (a := r.1) (z4o hc he), zkl (a := r.1) (z4o hc he), Option.bind_eq_bind, Option.bind_some, neg1, if_true]; rfl) ⟨he.1, he.2⟩)
 have l1 := z4e (z3q h1).1 hl
 have hw := zlh (L := L) (d := 0) (i := i) l1 zs9 (by decide)
 cases hs : z56 zs9 r1 with
 | none =>
  rw [hs] at hw
  refine TP.err (r := ((⟨r1.map tokT, L, 5, sAt L r1, 0, i⟩ : z00), ⟨m, -1, 0, nB, nB, []⟩)) (fun n => ?_) (by decide) ⟨rfl, rfl⟩
  show (z1o (PS L r1 0 i) zs9).bind _ = _
  rw [hw]
  simp only [Option.bind_some, neg1, if_true, zjn, Option.bind_eq_bind]
 | some j =>
  rw [hs] at hw
  have q1 : decide (((j : Nat) : Int) < 0) = false := by simp
  have l2 : r1.tail.length ≤ 2000 := by have := (z93 hs).1; omega
  refine TP.eq (y := fun _ => z1z (PS L r1.tail 0 i) >>= fun v4 => z05 v4.1 (ByteArray.mk #[102, 114, 111, 109]) >>= fun v5 => z0f v5 >>= fun v6 => z05 v6.1 (ByteArray.mk #[116, 111]) >>= fun v7 => z0f v7 >>= fun v8 => z05 v8.1 (ByteArray.mk #[123]) >>= fun v9 =>
   z0f v9 >>= fun v10 => app 16 [] [v10.2] >>= fun v11 => LF z24 v10.1 v11 >>= fun w => z05 w.1 (ByteArray.mk #[125]) >>= fun v15 => z05 v15 (ByteArray.mk #[59]) >>= fun v16 => some (v16, (z23.mk m (j : Int) v4.2 v6.2 v8.2 w.2))) ?_ (fun n => by
   show (z1o (PS L r1 0 i) zs9).bind _ = _
   rw [hw]
   simp only [Option.bind_some, q1, Bool.false_eq_true, if_false])
  refine TP.bind (π' := Prod.fst) (mk' := mkCh) (zx0 l2) (fun z r2 h2 => ?_) (fun r c p hc he => z40 (by simp only [eQ (a := r.1) (z4o hc he), z4w, z8a, Option.bind_eq_bind, Option.bind_some]; rfl) ⟨he.1, he.2⟩)
  have l2 := z4e (zej h2).1 l2
  refine TP.bind (π' := Prod.fst) (mk' := mkCh) (z74 l2 _) (fun _ r3 h3 => ?_) (fun r c p hc he => z40 (by simp only [eQ (a := r) (z4o hc he), z4w, z8a, Option.bind_eq_bind, Option.bind_some]; rfl) ⟨he.1, he.2⟩)
  have l3 := z4e (z2o h3).1 l2
  refine TP.bind (π' := Prod.fst) (mk' := mkCh) (zay l3) (fun a r4 h4 => ?_) (fun r c p hc he => z40 (by simp only [eQ (a := r.1) (z4o hc he), z4w, z8a, Option.bind_eq_bind, Option.bind_some]; rfl) ⟨he.1, he.2⟩)
  have l4 := z4e (z3q h4).1 l3
  refine TP.bind (π' := Prod.fst) (mk' := mkCh) (z74 l4 _) (fun _ r5 h5 => ?_) (fun r c p hc he => z40 (by simp only [eQ (a := r) (z4o hc he), z4w, z8a, Option.bind_eq_bind, Option.bind_some]; rfl) ⟨he.1, he.2⟩)
  have l5 := z4e (z2o h5).1 l4
  refine TP.bind (π' := Prod.fst) (mk' := mkCh) (zay l5) (fun b r6 h6 => ?_) (fun r c p hc he => z40 (by simp only [eQ (a := r.1) (z4o hc he), z4w, z8a, Option.bind_eq_bind, Option.bind_some]; rfl) ⟨he.1, he.2⟩)
  have l6 := z4e (z3q h6).1 l5
  refine TP.bind (π' := Prod.fst) (mk' := mkCh) (z74 l6 _) (fun _ r7 h7 => ?_) (fun r c p hc he => z40 (by simp only [eQ (a := r) (z4o hc he), z4w, z8a, Option.bind_eq_bind, Option.bind_some]; rfl) ⟨he.1, he.2⟩)
  have l7 := z4e (z2o h7).1 l6
  refine TP.bind (π' := Prod.fst) (mk' := mkCh) (zay l7) (fun t r8 h8 => ?_) (fun r c p hc he => z40 (by simp only [eQ (a := r.1) (z4o hc he), z4w, z8a, Option.bind_eq_bind, Option.bind_some]; rfl) ⟨he.1, he.2⟩)
  have z8 := (z3q h8).2
  have l8 := z4e (z3q h8).1 l7
  refine TP.eq (y := fun _ => LF z24 (PS L r8 0 i) [t] >>= fun w => z05 w.1 (ByteArray.mk #[125]) >>= fun v15 => z05 v15 (ByteArray.mk #[59]) >>= fun v16 => some (v16, (z23.mk m (j : Int) z a b w.2))) ?_ (fun n => rfl)
  refine TP.bind (π' := Prod.fst) (mk' := mkCh) ((z03c (t := t) (by omega)).mono (Nat.zero_le _)) (fun l r9 h9 => ?_) (fun r c p hc he => z40 (by simp only [eQ (a := r.1) (z4o hc he), z4w, z8a, Option.bind_eq_bind, Option.bind_some]; rfl) ⟨he.1, he.2⟩)
  have l9 := z4e (zc9 zn0 _ _ _ _ h9) l8
  refine TP.bind (π' := Prod.fst) (mk' := mkCh) (z74 l9 _) (fun _ r10 h10 => ?_) (fun r c p hc he => z40 (by simp only [eQ (a := r) (z4o hc he), z4w, z8a, Option.bind_eq_bind, Option.bind_some]; rfl) ⟨he.1, he.2⟩)
  have l10 := z4e (z2o h10).1 l9
  refine TP.bind (π' := Prod.fst) (mk' := mkCh) (z74 l10 _) (fun _ r11 h11 => TP.pure (fun n => ?_)) (fun r c p hc he => z40 (by simp only [eQ (a := r) (z4o hc he), z4w, z8a, Option.bind_eq_bind, Option.bind_some]; rfl) ⟨he.1, he.2⟩)
  simp [mkCh, cCh]
theorem z03e {ts : List Tok} (hl : ts.length ≤ 2000) : TP L 0 i Prod.fst mkMo 0 (fun _ => z1z (PS L ts 0 i) >>= fun v4 => z0f v4.1 >>= fun v5 => z1z v5.1 >>= fun v6 => z05 v6.1 (ByteArray.mk #[59]) >>= fun v7 => some (v7, z3s.mk v4.2 v5.2 v6.2)) (zn2 L ts) := by
 unfold zn2
 refine TP.bind (π' := Prod.fst) (mk' := mkMo) (zx0 hl) (fun a r1 h1 => ?_) (fun r c p hc he => z40 (by simp only [eQ (a := r.1) (z4o hc he), z4w, z8a, Option.bind_eq_bind, Option.bind_some]; rfl) ⟨he.1, he.2⟩)
 have l1 := z4e (zej h1).1 hl
 refine TP.bind (π' := Prod.fst) (mk' := mkMo) (zay l1) (fun t r2 h2 => ?_) (fun r c p hc he => z40 (by simp only [eQ (a := r.1) (z4o hc he), z4w, z8a, Option.bind_eq_bind, Option.bind_some]; rfl) ⟨he.1, he.2⟩)
 have l2 := z4e (z3q h2).1 l1
 refine TP.bind (π' := Prod.fst) (mk' := mkMo) (zx0 l2) (fun b r3 h3 => ?_) (fun r c p hc he => z40 (by simp only [eQ (a := r.1) (z4o hc he), z4w, z8a, Option.bind_eq_bind, Option.bind_some]; rfl) ⟨he.1, he.2⟩)
 have l3 := z4e (zej h3).1 l2
 exact TP.bind (π' := Prod.fst) (mk' := mkMo) (z74 l3 _) (fun _ r4 h4 => TP.pure (fun n => rfl)) (fun r c p hc he => ⟨(r, ⟨a, t, b⟩), he, fun n => .inl rfl⟩)
theorem z00s {ts : List Tok} (hl : ts.length ≤ 2000) : TP L 0 i Prod.fst (fun v a => (a, [] ++ v.map cMo)) 0 (fun _ => LF z39 (PS L ts 0 i) []) (zbz (zk4 L) (ts.length + 1) ts) := by
 refine zkn (cv := cMo) zjj (fun ts l ht hm => ?_) (fun ts o ht hm => ?_) (fun a l h => zyi h l) _ ts [] (by omega) (by simp; omega)
 ·unfold zk4 at hm
  cases hs : z33 (ByteArray.mk #[125]) ts with
  | false => rw [hs] at hm; cases hm
  | true =>
   unfold z39
   rw [if_pos (by rfl)]
   show ((z30 (PS L ts 0 i) (ByteArray.mk #[125]) >>= fun v5 => some (!v5)) >>= _) = _
   rw [zfh, hs]; rfl
 ·unfold zk4 at hm
  cases hs : z33 (ByteArray.mk #[125]) ts with
  | true => rw [hs] at hm; cases hm
  | false =>
   rw [hs] at hm; injection hm with hm; subst hm
   refine ⟨_, z03e ht, fun l hll => ?_⟩
   unfold z39
   rw [if_pos (by rfl)]
   show ((z30 (PS L ts 0 i) (ByteArray.mk #[125]) >>= fun v5 => some (!v5)) >>= _) = _
   rw [zfh, hs]
   simp only [Option.bind_eq_bind, Option.bind_some, Bool.not_false, if_true, Option.bind_assoc]
   congr 1; funext v4
   congr 1; funext v5
   congr 1; funext v6
   congr 1; funext v7
   show (app 32 l [_]).bind _ = _
   rw [z7u (by simp; omega)]; rfl
theorem z03f {ts : List Tok} {H : Nat} (hl : ts.length ≤ 2000) : TP L 0 i Prod.fst mkRu H (fun _ => z6f (PS L ts 0 i)) (zn3 L ts) := by
 refine TP.eq (y := fun _ => _) ?_ (fun _ => z00q _)
 unfold zn3
 refine TP.bind (π' := Prod.fst) (mk' := mkRu) (zay hl) (fun m r1 h1 => ?_) (fun r c p hc he => z40 (by simp only [eQ (a := r.1) (z4o hc he), z4w, z8a, Option.bind_eq_bind, Option.bind_some]; rfl) ⟨he.1, he.2⟩)
 have l1 := z4e (z3q h1).1 hl
 refine TP.bind (π' := Prod.fst) (mk' := mkRu) (z74 l1 _) (fun _ r2 h2 => ?_) (fun r c p hc he => z40 (by simp only [eQ (a := r) (z4o hc he), z4w, z8a, Option.bind_eq_bind, Option.bind_some]; rfl) ⟨he.1, he.2⟩)
 have l2 := z4e (z2o h2).1 l1
 refine TP.bind (π' := Prod.fst) (mk' := mkRu) ((z00s l2).mono (Nat.zero_le _)) (fun l r3 h3 => ?_) (fun r c p hc he => z40 (by simp only [eQ (a := r.1) (z4o hc he), z4w, z8a, Option.bind_eq_bind, Option.bind_some]; rfl) ⟨he.1, he.2⟩)
 have l3 := z4e (zc9 zjj _ _ _ _ h3) l2
 refine TP.bind (π' := Prod.fst) (mk' := mkRu) (z74 l3 _) (fun _ r4 h4 => TP.pure (fun n => rfl)) (fun r c p hc he => z40 (by simp only [eQ (a := r) (z4o hc he), z4w, z8a, Option.bind_eq_bind, Option.bind_some]; rfl) ⟨he.1, he.2⟩)
theorem z03g {ts : List Tok} (hl : ts.length ≤ 2000) : TP L 0 i Prod.fst (fun v a => (a, [] ++ v.map id)) 0 (fun _ => LF z3a (PS L ts 0 i) []) (zbz (mVar L) (ts.length + 1) ts) := by
 refine zkn (cv := id) zn4 (fun ts l ht hm => ?_) (fun ts o ht hm => ?_) (fun a l h => zyj h l) _ ts [] (by omega) (by simp; omega)
 ·unfold mVar at hm
  cases hs : z33 (ByteArray.mk #[118, 97, 114]) ts with
  | true => rw [hs] at hm; cases hm
  | false =>
   unfold z3a
   show (z0g (PS L ts 0 i) _ >>= _) = _
   rw [z8o ht, hs]; rfl
 ·unfold mVar at hm
  cases hs : z33 (ByteArray.mk #[118, 97, 114]) ts with
  | false => rw [hs] at hm; cases hm
  | true =>
   rw [hs] at hm; injection hm with hm; subst hm
   have l0 : ts.tail.length ≤ 2000 := by have := z5k hs; omega
   refine ⟨z0f (PS L ts.tail 0 i) >>= fun v4 => z05 v4.1 (ByteArray.mk #[59]) >>= fun v6 => some (v6, v4.2), ?_, fun l hll => ?_⟩
   ·refine TP.bind (π' := Prod.fst) (mk' := fun v a => (a, id v)) (zay l0) (fun m r1 h1 => ?_) (fun r c p hc he => z40 (by simp only [eQ (a := r.1) (z4o hc he), z4w, z8a, Option.bind_eq_bind, Option.bind_some]) ⟨he.1, he.2⟩)
    exact TP.bind (π' := Prod.fst) (mk' := fun v a => (a, id v)) (z74 (z4e (z3q h1).1 l0) _) (fun _ r2 h2 => TP.pure (fun n => rfl)) (fun r c p hc he => ⟨(r, m), he, fun n => .inl rfl⟩)
   ·unfold z3a
    show (z0g (PS L ts 0 i) _ >>= _) = _
    rw [z8o ht, hs]
    simp only [Option.bind_eq_bind, Option.bind_some, if_true, Option.bind_assoc]
    congr 1; funext v
    show (app 16 l [v.2]).bind _ = _
    rw [z7u (by simp; omega)]; rfl
theorem z03h {ts : List Tok} {H : Nat} (hl : ts.length ≤ 2000) : TP L 0 0 Prod.fst mkL H (fun _ => z66 (PS L ts 0 0)) (zmy L ts) := by
 have h := (pt L (3 * ts.length + 2)).stmts 0 ts [] (by omega) hl (by simpa using hl)
 have h := TP.up (F := fun n => z13 n (PS L ts 0 0)) rfl (fun n => rfl) h
 have h := h.unf.mono (Nat.zero_le H)
 intro hne
 obtain ⟨r, g, s⟩ := h hne
 refine ⟨r, ?_, s⟩
 unfold zmy
 simpa using g
theorem z03i {ts : List Tok} {H : Nat} (hl : ts.length ≤ 2000) : TP L 0 0 Prod.fst mkPr H (fun _ => z6h (PS L ts 0 0)) (zn5 L ts) := by
 refine TP.eq (y := fun _ => _) ?_ (fun _ => z00r _)
 unfold zn5
 refine TP.bind (π' := Prod.fst) (mk' := mkPr) (zay hl) (fun m r1 h1 => ?_) (fun r c p hc he => z40 (by simp only [eQ (a := r.1) (z4o hc he), z4w, z8a, Option.bind_eq_bind, Option.bind_some]; rfl) ⟨he.1, he.2⟩)
 have l1 := z4e (z3q h1).1 hl
 refine TP.bind (π' := Prod.fst) (mk' := mkPr) (z74 l1 _) (fun _ r2 h2 => ?_) (fun r c p hc he => z40 (by simp only [eQ (a := r) (z4o hc he), z4w, z8a, Option.bind_eq_bind, Option.bind_some]; rfl) ⟨he.1, he.2⟩)
 have l2 := z4e (z2o h2).1 l1
 refine TP.bind (π' := Prod.fst) (mk' := mkPr) ((z03g l2).mono (Nat.zero_le _)) (fun l r3 h3 => ?_) (fun r c p hc he => z40 (by simp only [eQ (a := r.1) (z4o hc he), z4w, z8a, Option.bind_eq_bind, Option.bind_some]; rfl) ⟨he.1, he.2⟩)
 have l3 := z4e (zc9 zn4 _ _ _ _ h3) l2
 refine TP.bind (π' := Prod.fst) (mk' := mkPr) (z03h l3) (fun b r4 h4 => ?_) (fun r c p hc he => z40 (by simp only [eQ (a := r.1) (z4o hc he), z4w, z8a, Option.bind_eq_bind, Option.bind_some]; rfl) ⟨he.1, he.2⟩)
 have l4 := z4e (zqj h4) l3
 refine TP.bind (π' := Prod.fst) (mk' := mkPr) (z74 l4 _) (fun _ r5 h5 => TP.pure (fun n => ?_)) (fun r c p hc he => z40 (by simp only [eQ (a := r) (z4o hc he), z4w, z8a, Option.bind_eq_bind, Option.bind_some]; rfl) ⟨he.1, he.2⟩)
 simp [mkPr, cPr]
theorem z00t {ts : List Tok} (hl : ts.length ≤ 2000) : TP L 0 0 Prod.fst (fun v a => (a, [] ++ v.map cCh)) 0 (fun _ => LF z5y (PS L ts 0 0) []) (zbz (zjh L) (ts.length + 1) ts) := by
 refine zkn (cv := cCh) zla (fun ts l ht hm => ?_) (fun ts o ht hm => ?_) (fun a l h => z038 h l) _ ts [] (by omega) (by simp; omega)
 ·unfold zjh at hm
  cases hs : z33 (ByteArray.mk #[99, 104, 97, 110]) ts with
  | true => rw [hs] at hm; cases hm
  | false =>
   unfold z5y
   show (z0g (PS L ts 0 0) _ >>= _) = _
   rw [z8o ht, hs]; rfl
 ·unfold zjh at hm
  cases hs : z33 (ByteArray.mk #[99, 104, 97, 110]) ts with
  | false => rw [hs] at hm; cases hm
  | true =>
   rw [hs] at hm; injection hm with hm; subst hm
   have l0 : ts.tail.length ≤ 2000 := by have := z5k hs; omega
   refine ⟨z5l (PS L ts.tail 0 0), z03d l0, fun l hll => ?_⟩
   unfold z5y
   show (z0g (PS L ts 0 0) _ >>= _) = _
   rw [z8o ht, hs]
   simp only [Option.bind_eq_bind, Option.bind_some, if_true]
   congr 1; funext v
   show (app 88 l [v.2]).bind _ = _
   rw [z7u (by simp; omega)]; rfl
theorem z00u {ts : List Tok} (hl : ts.length ≤ 2000) : TP L 0 0 Prod.fst (fun v a => (a, [] ++ v.map cRu)) 0 (fun _ => LF z5z (PS L ts 0 0) []) (zbz (zji L) (ts.length + 1) ts) := by
 refine zkn (cv := cRu) zlb (fun ts l ht hm => ?_) (fun ts o ht hm => ?_) (fun a l h => zyk h l) _ ts [] (by omega) (by simp; omega)
 ·unfold zji at hm
  cases hs : z33 (ByteArray.mk #[114, 117, 108, 101]) ts with
  | true => rw [hs] at hm; cases hm
  | false =>
   unfold z5z
   show (z0g (PS L ts 0 0) _ >>= _) = _
   rw [z8o ht, hs]; rfl
 ·unfold zji at hm
  cases hs : z33 (ByteArray.mk #[114, 117, 108, 101]) ts with
  | false => rw [hs] at hm; cases hm
  | true =>
   rw [hs] at hm; injection hm with hm; subst hm
   have l0 : ts.tail.length ≤ 2000 := by have := z5k hs; omega
   refine ⟨z6f (PS L ts.tail 0 0), z03f l0, fun l hll => ?_⟩
   unfold z5z
   show (z0g (PS L ts 0 0) _ >>= _) = _
   rw [z8o ht, hs]
   simp only [Option.bind_eq_bind, Option.bind_some, if_true]
   congr 1; funext v
   show (app 40 l [v.2]).bind _ = _
   rw [z7u (by simp; omega)]; rfl
theorem z00v {ts : List Tok} (hl : ts.length ≤ 2000) : TP L 0 0 Prod.fst (fun v a => (a, [] ++ v.map cPr)) 0 (fun _ => LF z5e (PS L ts 0 0) []) (zbz (zjk L) (ts.length + 1) ts) := by
 refine zkn (cv := cPr) zox (fun ts l ht hm => ?_) (fun ts o ht hm => ?_) (fun a l h => zv8 h l) _ ts [] (by omega) (by simp; omega)
 ·unfold zjk at hm
  cases hs : z33 (ByteArray.mk #[112, 114, 111, 99]) ts with
  | true => rw [hs] at hm; cases hm
  | false =>
   unfold z5e
   show (z0g (PS L ts 0 0) _ >>= _) = _
   rw [z8o ht, hs]; rfl
 ·unfold zjk at hm
  cases hs : z33 (ByteArray.mk #[112, 114, 111, 99]) ts with
  | false => rw [hs] at hm; cases hm
  | true =>
   rw [hs] at hm; injection hm with hm; subst hm
   have l0 : ts.tail.length ≤ 2000 := by have := z5k hs; omega
   refine ⟨z6h (PS L ts.tail 0 0), z03i l0, fun l hll => ?_⟩
   unfold z5e
   show (z0g (PS L ts 0 0) _ >>= _) = _
   rw [z8o ht, hs]
   simp only [Option.bind_eq_bind, Option.bind_some, if_true]
   congr 1; funext v
   show (app 64 l [v.2]).bind _ = _
   rw [z7u (by simp; omega)]; rfl

end
/-! ### Whole texts -/
noncomputable def pAll (a : z00) : Option (z00 × z16) := LF z5y a [] >>= fun c => LF z5z c.1 [] >>= fun r => LF z5e r.1 [] >>= fun p => some (p.1, ⟨c.2, r.2, p.2⟩)
noncomputable def pFin (v : z00 × z16) : Option (z16 × Int × Int) :=
 if (decide ((v.1.f_l.length : Int) > 0)) then (z29 v.1 5 >>= fun w => if (w.f_e != 0) then some ((z16.mk [] [] []), w.f_at, w.f_e) else some (v.2, 0, 0))
 else (if (v.1.f_e != 0) then some ((z16.mk [] [] []), v.1.f_at, v.1.f_e) else some (v.2, 0, 0))
theorem zqk (s : ByteArray) : z6l s = ze0 s >>= fun v1 => if (v1.2.2 != 0) then some ((z16.mk [] [] []), v1.2.1, v1.2.2) else pAll ⟨v1.1, (s.size : Int), 0, 0, 0, 0⟩ >>= pFin := by
 unfold pAll
 simp only [Option.bind_eq_bind, Option.bind_assoc, Option.bind_some]
 simp only [← Option.bind_eq_bind, ← zqi]
 rfl
section
variable {L : Int} {ts : List Tok}
theorem z04w (hl : ts.length ≤ 2000) : TP L 0 0 Prod.fst (fun v a => (a, cSys v)) 0 (fun _ => pAll (PS L ts 0 0)) (sSys L ts) := by
 unfold sSys pAll
 refine TP.bind (π' := Prod.fst) (mk' := fun v a => (a, cSys v)) (z00t hl) (fun c r1 h1 => ?_) (fun r c p hc he => ⟨(r.1, ⟨r.2, [], []⟩), he, fun n => .inl (by rw [zi5 (zyk (z4o hc he) [])]; show (LF z5e r.1 [] >>= _) = _; rw [zi5 (zv8 (z4o hc he) [])]; rfl)⟩)
 have l1 := z4e (zc9 zla _ _ _ _ h1) hl
 refine TP.bind (π' := Prod.fst) (mk' := fun v a => (a, cSys v)) (z00u l1) (fun d r2 h2 => ?_) (fun r cc p hc he => ⟨(r.1, ⟨c.map cCh, r.2, []⟩), he, fun n => .inl (by rw [zi5 (zv8 (z4o hc he) [])]; rfl)⟩)
 have l2 := z4e (zc9 zlb _ _ _ _ h2) l1
 exact TP.bind (π' := Prod.fst) (mk' := fun v a => (a, cSys v)) (z00v l2) (fun d r2 h2 => TP.pure (fun n => rfl)) (fun r cc p hc he => ⟨(r.1, ⟨c.map cCh, d.map cRu, r.2⟩), he, fun n => .inl rfl⟩)
/-- What the program parses. -/
theorem z00w {s : ByteArray} {p : Int} (hs : ze0 s = some (ts.map tokT, p, 0)) (hl : ts.length ≤ 2000) : z6l s = some (match sAll (s.size : Int) ts with
  | .ok v _ => (cSys v, 0, 0)
  | .er c p => (⟨[], [], []⟩, p, c)
  | .out => (⟨[], [], []⟩, 0, 0)) := by
 rw [zqk, hs]
 show (pAll (PS (s.size : Int) ts 0 0) >>= pFin) = _
 obtain ⟨r, g, q⟩ := z04w (L := (s.size : Int)) hl zyg
 have q : pAll (PS (s.size : Int) ts 0 0) = some r := by
  rcases q 0 with q | ⟨_, q⟩
  ·exact q
  ·omega
 rw [q]
 show pFin r = _
 unfold sAll
 cases hv : sSys (s.size : Int) ts with
 | ok v rest =>
  rw [hv] at g
  have g : r = (PS (s.size : Int) rest 0 0, cSys v) := g
  subst g
  cases rest with
  | nil => rfl
  | cons t rest =>
   unfold pFin
   rw [if_pos (by simp [PS])]
   show (z29 (PS _ _ 0 0) 5 >>= _) = _
   rw [zjn]; rfl
 | er c p =>
  rw [hv] at g
  obtain ⟨hc, he⟩ := g
  have h : r.1.f_e ≠ 0 := z4o hc he
  have h1 : (r.1.f_e != 0) = true := e1 h
  unfold pFin
  rw [zkl h]
  simp only [Option.bind_eq_bind, Option.bind_some, h1, if_true, ite_self]
  rw [he.1, he.2]; rfl
 | out => exact absurd hv zyg
end
end Go.Proofs.YtokjbpmjdcbogaaGreatDoor.Abs.Par
/- What is parsed is no larger than its words. -/
namespace Go.Proofs.YtokjbpmjdcbogaaGreatDoor.Abs.Par
open Go Go.RowKit Wri
set_option linter.unusedVariables false
set_option linter.unusedSimpArgs false
structure SzX (L : Int) (f : Nat) : Prop where
 fac : ∀ d ts v r, z6t L f d ts = .ok v r → szE (cE v) + r.length ≤ ts.length
 mul : ∀ d e ts v r, sMul L f d e ts = .ok v r → szE (cE v) + r.length ≤ szE (cE e) + ts.length
 term : ∀ d ts v r, zds L f d ts = .ok v r → szE (cE v) + r.length ≤ ts.length
 add : ∀ d e ts v r, sAdd L f d e ts = .ok v r → szE (cE v) + r.length ≤ szE (cE e) + ts.length
 exp : ∀ d ts v r, zdt L f d ts = .ok v r → szE (cE v) + r.length ≤ ts.length
section
variable {L : Int} {ts r : List Tok}
end
structure SzS (L : Int) (f : Nat) : Prop where
 stmts : ∀ i ts v r, z92 L f i ts = .ok v r → szL (cL v) + 10 * r.length ≤ 10 * ts.length + 1
 stmt : ∀ i ts v r, z9u L f i ts = some (.ok v r) → szS (cS v) + 10 * r.length ≤ 10 * ts.length
 arm : ∀ i ts v r, sArm L f i ts = .ok v r → 2 + szL (cL v.Body) + 10 * r.length ≤ 10 * ts.length
 arms : ∀ i ts v r, zda L f i ts = .ok v r → szA (cA v) + 10 * r.length ≤ 10 * ts.length + 1
 block : ∀ i ts v r, z9t L f i ts = .ok v r → szL (cL v) + 10 * r.length + 9 ≤ 10 * ts.length
section
variable {L : Int} {ts r : List Tok}
end
end Go.Proofs.YtokjbpmjdcbogaaGreatDoor.Abs.Par
/- The program and the statements' own reader parse every text alike; the law ParseReads. -/
namespace Go.Proofs.YtokjbpmjdcbogaaGreatDoor.Abs.Par
open Go Go.RowKit Wri
set_option linter.unusedVariables false
set_option linter.unusedSimpArgs false
def emp : z43 := ⟨[], [], []⟩
def fin (L : Int) (z : List Tok × Int × Int) : z43 × Int × Int := if z.2.2 != 0 then (emp, z.2.1, z.2.2) else match sAll L z.1 with
 | .ok v _ => (v, 0, 0)
 | .er c p => (emp, p, c)
 | .out => (emp, 0, 0)
/-- What a text says, or the error and its place. -/
def gAll (s : ByteArray) : z43 × Int × Int := fin (s.size : Int) (told s.size (lexS s.data.toList 0))
theorem zxg (n : Nat) (z : List Tok × Option (Nat × Int)) : (told n z).1.length ≤ 2000 := by
 unfold told
 split
 ·simp
 ·split
  ·simp
  ·simp; omega
theorem zle {s : ByteArray} (hs : s.size ≤ 4194304) : z6l s = some (cSys (gAll s).1, (gAll s).2.1, (gAll s).2.2) := by
 have hl := z03j s hs
 have h2 := zxg s.size (lexS s.data.toList 0)
 unfold gAll fin
 unfold finT at hl
 generalize told s.size (lexS s.data.toList 0) = z at *
 obtain ⟨ts, p, e⟩ := z
 cases he : (e != 0) with
 | true =>
  rw [zqk, hl]
  simp only [Option.bind_eq_bind, Option.bind_some, he, if_true]
  rfl
 | false =>
  have he' : e = 0 := by simpa using he
  subst he'
  rw [z00w hl h2]
  simp only [he, Bool.false_eq_true, if_false]
  cases sAll (s.size : Int) ts <;> rfl
/-! ### Two texts -/
def lexF : Nat → Bs → Nat → List Tok × Option (Nat × Int)
 | 0, _, _ => ([], none)
 | n + 1, l, p => match l with
  | [] => ([], none)
  | b :: r =>
   if isB b then lexF n r (p + 1)
   else match zdr (b :: r) with
    | .error e => ([], some (p, e))
    | .ok w => let z := lexF n (r.drop (w.len - 1)) (p + w.len); (⟨w.kind, (b :: r).take w.len, w.num, p⟩ :: z.1, z.2)
theorem zu7 : ∀ n l p, l.length ≤ n → lexS l p = lexF n l p := by
 intro n
 induction n with
 | zero =>
  intro l p h
  have : l = [] := List.eq_nil_of_length_eq_zero (by omega)
  subst this; unfold lexS; rfl
 | succ n ih =>
  intro l p h
  cases l with
  | nil => unfold lexS; rfl
  | cons b r =>
   simp only [List.length_cons] at h
   unfold lexS
   simp only [lexF]
   split
   ·exact ih _ _ (by omega)
   ·cases zdr (b :: r) with
    | error e => rfl
    | ok w => simp only [ih (r.drop (w.len - 1)) (p + w.len) (by simp; omega)]
def gF (s : ByteArray) : z43 × Int × Int := fin (s.size : Int) (told s.size (lexF s.size s.data.toList 0))
theorem z03k (s : ByteArray) : gAll s = gF s := by
 unfold gAll gF
 rw [zu7 s.size _ _ (Nat.le_of_eq (by cases s; simp [ByteArray.size]))]
abbrev T1 : ByteArray := ByteArray.mk #[112, 114, 111, 99, 32, 112, 32, 123, 32, 120, 32, 61, 32, 49, 32, 43, 32, 50, 32, 42, 32, 51, 32, 59, 32, 125]
abbrev T2 : ByteArray := ByteArray.mk #[112, 114, 111, 99, 32, 112]
def nE (n : Int) : z1m := ⟨1, n, nB, []⟩
theorem t1_g : gF T1 = (⟨[], [], [⟨ByteArray.mk #[112], [], [.mk 1 (ByteArray.mk #[120]) nB ⟨4, 0, nB, [nE 1, ⟨6, 0, nB, [nE 2, nE 3]⟩]⟩ zC [] [] []]⟩]⟩, 0, 0) := by kernel_rfl
theorem t2_g : gF T2 = (emp, 6, 5) := by kernel_rfl
theorem zwz : zbg = some true := by
 unfold zbg
 rw [zle (s := T1) (by decide), zle (s := T2) (by decide), z03k T1, z03k T2, t1_g, t2_g]
 rfl
/-! ### The law -/
end Go.Proofs.YtokjbpmjdcbogaaGreatDoor.Abs.Par
