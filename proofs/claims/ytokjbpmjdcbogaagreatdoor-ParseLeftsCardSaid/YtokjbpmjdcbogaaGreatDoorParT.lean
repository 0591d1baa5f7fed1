/- What parsing is, over words; the program's reader does it: signs, names, expressions. -/
import Derived.Test.YtokjbpmjdcbogaaGreatDoorPlB
import Derived.KernelRfl
namespace Go.Proofs.YtokjbpmjdcbogaaGreatDoor.Abs.Par
open Go Go.RowKit Wri
set_option linter.unusedVariables false
set_option linter.unusedSimpArgs false
/-- What comes of reading: a value and the words left, an error and its place, or no fuel. -/
inductive Rs (α : Type) where
 | ok (v : α) (ts : List Tok)
 | er (c p : Int)
 | out
def Rs.bind {α β : Type} (x : Rs α) (k : α → List Tok → Rs β) : Rs β := match x with
 | .ok v ts => k v ts
 | .er c p => .er c p
 | .out => .out
section
variable (L : Int)
def sAt : List Tok → Int
 | [] => L
 | t :: _ => (t.at_ : Int)
def z30 (w : ByteArray) : List Tok → Bool
 | [] => false
 | t :: _ => decide (t.kind ≥ 3) && (t.text == w.data.toList)
def sOf (k : Int) : List Tok → Bool
 | [] => false
 | t :: _ => t.kind == k
def z5u (w : ByteArray) (ts : List Tok) : Rs Unit := if z30 w ts then .ok () ts.tail else .er 5 (sAt L ts)
def z83 : List Tok → Rs ByteArray
 | [] => .er 5 L
 | t :: r => if t.kind == 1 then .ok ⟨t.text.toArray⟩ r else .er 5 (t.at_ : Int)
def sNum : List Tok → Rs Int
 | [] => .er 5 L
 | t :: r => if t.kind == 2 then .ok (t.num : Int) r else .er 5 (t.at_ : Int)
def z3s : List ByteArray → List Tok → Option Nat
 | [], _ => none
 | w :: l, ts => if z30 w ts then some 0 else (z3s l ts).map (· + 1)
def zE : z05 := ⟨0, 0, ByteArray.mk #[], []⟩
def zC : z4f := ⟨0, zE, zE⟩
def mulS : List ByteArray := [(ByteArray.mk #[42]), (ByteArray.mk #[47]), (ByteArray.mk #[37])]
def addS : List ByteArray := [(ByteArray.mk #[43]), (ByteArray.mk #[45])]
mutual
def z5d : Nat → Nat → List Tok → Rs z05
 | 0, _, _ => .out
 | f + 1, d, ts =>
  if z30 (ByteArray.mk #[45]) ts then (if d = 24 then .er 6 (sAt L ts) else (z5d f (d + 1) ts.tail).bind fun e r => .ok ⟨3, 0, ByteArray.mk #[], [e]⟩ r)
  else if z30 (ByteArray.mk #[40]) ts then (if d = 24 then .er 6 (sAt L ts) else (z9p f (d + 1) ts.tail).bind fun e r => (z5u L (ByteArray.mk #[41]) r).bind fun _ r' => .ok e r')
  else if sOf 2 ts then (sNum L ts).bind fun n r => .ok ⟨1, n, ByteArray.mk #[], []⟩ r
  else (z83 L ts).bind fun s r => .ok ⟨2, 0, s, []⟩ r
def sMul : Nat → Nat → z05 → List Tok → Rs z05
 | 0, _, _, _ => .out
 | f + 1, d, e, ts => match z3s mulS ts with
  | none => .ok e ts
  | some j => (z5d f d ts.tail).bind fun k r => sMul f d ⟨6 + (j : Int), 0, ByteArray.mk #[], [e, k]⟩ r
def z9o : Nat → Nat → List Tok → Rs z05
 | 0, _, _ => .out
 | f + 1, d, ts => (z5d f d ts).bind fun e r => sMul f d e r
def sAdd : Nat → Nat → z05 → List Tok → Rs z05
 | 0, _, _, _ => .out
 | f + 1, d, e, ts => match z3s addS ts with
  | none => .ok e ts
  | some j => (z9o f d ts.tail).bind fun k r => sAdd f d ⟨4 + (j : Int), 0, ByteArray.mk #[], [e, k]⟩ r
def z9p : Nat → Nat → List Tok → Rs z05
 | 0, _, _ => .out
 | f + 1, d, ts => (z9o f d ts).bind fun e r => sAdd f d e r
end
end
/-! ### The program's reader -/
def PS (L : Int) (ts : List Tok) (d i : Int) : z00 := ⟨ts.map tokT, L, 0, 0, d, i⟩
def EP (a : z00) (c p : Int) : Prop := a.f_e = c ∧ a.f_at = p
section
variable {ρ ρ' β γ : Type} {L d i d' i' : Int} {π : ρ → z00} {mk : β → z00 → ρ} {π' : ρ' → z00} {mk' : γ → z00 → ρ'} {H : Nat}
def GP (L d i : Int) (π : ρ → z00) (mk : β → z00 → ρ) : Rs β → ρ → Prop
 | .ok v ts, r => r = mk v (PS L ts d i)
 | .er c p, r => c ≠ 0 ∧ EP (π r) c p
 | .out, _ => False
def TP (L d i : Int) (π : ρ → z00) (mk : β → z00 → ρ) (H : Nat) (x : Nat → Option ρ) (o : Rs β) : Prop := o ≠ .out → ∃ r, GP L d i π mk o r ∧ ∀ n, Sn n H (x n) r
theorem TP.bind {x : Nat → Option ρ} {o : Rs β} {k : Nat → ρ → Option ρ'} {k' : β → List Tok → Rs γ} (h : TP L d i π mk H x o) (hok : ∀ v ts, o = .ok v ts → TP L d' i' π' mk' H (fun n => k n (mk v (PS L ts d i))) (k' v ts))
  (her : ∀ r c p, c ≠ 0 → EP (π r) c p → ∃ r', EP (π' r') c p ∧ ∀ n, Sn n H (k n r) r') : TP L d' i' π' mk' H (fun n => x n >>= k n) (o.bind k') := by
 intro hne
 cases o with
 | ok v ts =>
  obtain ⟨r, hr, hs⟩ := h (by simp)
  have hr : r = mk v (PS L ts d i) := hr
  subst hr
  obtain ⟨r', g', s'⟩ := hok v ts rfl hne
  exact ⟨r', g', fun n => Sn.bind (f := k n) (hs n) (s' n)⟩
 | er c p =>
  obtain ⟨r, ⟨hc, he⟩, hs⟩ := h (by simp)
  obtain ⟨r', he', s'⟩ := her r c p hc he
  exact ⟨r', ⟨hc, he'⟩, fun n => Sn.bind (f := k n) (hs n) (s' n)⟩
 | out => exact absurd rfl hne
theorem TP.pure {x : Nat → Option ρ} {v : β} {ts : List Tok} (e : ∀ n, x n = some (mk v (PS L ts d i))) : TP L d i π mk H x (.ok v ts) := fun _ => ⟨_, rfl, fun n => .inl (e n)⟩
theorem TP.err {x : Nat → Option ρ} {r : ρ} {c p : Int} (e : ∀ n, x n = some r) (hc : c ≠ 0) (hp : EP (π r) c p) : TP L d i π mk H x (.er c p) := fun _ => ⟨r, ⟨hc, hp⟩, fun n => .inl (e n)⟩
theorem TP.up {F x : Nat → Option ρ} {o : Rs β} (h0 : F 0 = none) (h1 : ∀ n, F (n + 1) = x n) (h : TP L d i π mk H x o) : TP L d i π mk (H + 1) F o := by
 intro hne
 obtain ⟨r, g, s⟩ := h hne
 refine ⟨r, g, fun n => ?_⟩
 cases n with
 | zero => exact .inr ⟨h0, by omega⟩
 | succ n => rw [h1]; exact (s n).up
theorem TP.mono {x : Nat → Option ρ} {o : Rs β} {H' : Nat} (h : TP L d i π mk H x o) (hh : H ≤ H') : TP L d i π mk H' x o := fun hne => by
 obtain ⟨r, g, s⟩ := h hne
 exact ⟨r, g, fun n => (s n).mono hh⟩
theorem TP.eq {x y : Nat → Option ρ} {o : Rs β} (h : TP L d i π mk H y o) (e : ∀ n, x n = y n) : TP L d i π mk H x o := by
 rw [show x = y from funext e]; exact h
theorem TP.unf {x : Nat → Option ρ} {o : Rs β} (h : TP L d i π mk H x o) : TP L d i π mk 0 (fun _ => unf x) o := fun hne => by
 obtain ⟨r, g, s⟩ := h hne
 exact ⟨r, g, fun n => .inl (Sn.unf s)⟩
end
theorem zcw {ρ : Type} {P : ρ → Prop} {x : Nat → Option ρ} {r : ρ} {H : Nat} (e : ∀ n, Sn n H (x n) r) (p : P r) : ∃ r, P r ∧ ∀ n, Sn n H (x n) r := ⟨r, p, e⟩
/-! ### Signs and names -/
theorem zow (t : Tok) : (tokT t).Text.data.toList = t.text := by simp [tokT]
theorem idx0 {α : Type} (x : α) (l : List α) : idx (x :: l) 0 = some x := rfl
theorem zw2 {α : Type} (x : α) (l : List α) (h : l.length ≤ 4611686018427387904) : lsub (x :: l) 1 ((x :: l).length : Int) = some l := by
 unfold lsub
 rw [if_pos ⟨by omega, by simp only [List.length_cons]; omega, by omega⟩]
 simp
section
variable {L d i : Int} {ts : List Tok}
theorem zbu (w : ByteArray) : z26 (PS L ts d i) w = some (z30 w ts) := by
 cases ts with
 | nil => rfl
 | cons t r =>
  unfold z26 PS z30
  have h1 : decide (((tokT t :: r.map tokT).length : Int) > 0) = true := by simp
  have e : (tokT t).Kind = t.kind := rfl
  simp only [beq_self_eq_true, if_true, List.map_cons, h1, idx0, Option.bind_eq_bind, Option.bind_some, Go.ByteArray.toList_eq, zow, e]
  cases decide (t.kind ≥ 3) <;> simp
theorem of_P (k : Int) : z41 (PS L ts d i) k = some (sOf k ts) := by
 cases ts with
 | nil => rfl
 | cons t r =>
  unfold z41 PS sOf
  have h1 : decide (((tokT t :: r.map tokT).length : Int) > 0) = true := by simp
  simp only [beq_self_eq_true, if_true, List.map_cons, h1, idx0, Option.bind_eq_bind, Option.bind_some]
  rfl
theorem zey (c : Int) : z1h (PS L ts d i) c = some ⟨ts.map tokT, L, c, sAt L ts, d, i⟩ := by
 cases ts with
 | nil => rfl
 | cons t r =>
  unfold z1h PS sAt
  have h1 : decide (((tokT t :: r.map tokT).length : Int) > 0) = true := by simp
  simp only [zcx, Bool.false_eq_true, if_false, if_true, List.map_cons, h1, idx0, Option.bind_eq_bind, Option.bind_some]
  rfl
theorem z6h (hl : ts.length ≤ 2000) (w : ByteArray) : z0a (PS L ts d i) w = some (if z30 w ts then (PS L ts.tail d i, true) else (PS L ts d i, false)) := by
 unfold z0a
 rw [zbu]
 cases hs : z30 w ts with
 | false => rfl
 | true =>
  cases ts with
  | nil => cases hs
  | cons t r =>
   simp only [Option.bind_eq_bind, Option.bind_some, Bool.not_true, Bool.false_eq_true, if_false, if_true, List.tail_cons]
   have : lsub (PS L (t :: r) d i).f_l 1 ((PS L (t :: r) d i).f_l.length : Int) = some (r.map tokT) := zw2 (tokT t) (r.map tokT) (by simp at hl ⊢; omega)
   rw [this]; rfl
theorem zkx (hl : ts.length ≤ 2000) (w : ByteArray) : z04 (PS L ts d i) w = some (if z30 w ts then PS L ts.tail d i else ⟨ts.map tokT, L, 5, sAt L ts, d, i⟩) := by
 unfold z04
 rw [z6h hl]
 cases hs : z30 w ts with
 | false => simp [zey]
 | true => simp
abbrev mkM : Unit → z00 → z00 := fun _ a => a
abbrev mkV {α : Type} : α → z00 → z00 × α := fun v a => (a, v)
theorem z5e {H : Nat} (hl : ts.length ≤ 2000) (w : ByteArray) : TP L d i id mkM H (fun _ => z04 (PS L ts d i) w) (z5u L w ts) := by
 unfold z5u
 cases hs : z30 w ts with
 | true => exact TP.pure (fun n => by rw [zkx hl, hs]; rfl)
 | false => exact TP.err (r := ⟨ts.map tokT, L, 5, sAt L ts, d, i⟩) (fun n => by rw [zkx hl, hs]; rfl) (by decide) ⟨rfl, rfl⟩
theorem zfw (hl : ts.length ≤ 2000) (k : Int) : z3v (PS L ts d i) k = match ts with
  | [] => some (⟨[], L, 5, L, d, i⟩, ⟨0, ByteArray.mk #[], 0, 0⟩)
  | t :: r => if t.kind == k then some (PS L r d i, tokT t) else some (⟨(t :: r).map tokT, L, 5, (t.at_ : Int), d, i⟩, ⟨0, ByteArray.mk #[], 0, 0⟩) := by
 unfold z3v
 rw [of_P]
 cases ts with
 | nil => rfl
 | cons t r =>
  simp only [sOf]
  cases hk : (t.kind == k) with
  | false => simp only [Option.bind_eq_bind, Option.bind_some, Bool.not_false, if_true, zey, Bool.false_eq_true, if_false]; rfl
  | true =>
   have : lsub (PS L (t :: r) d i).f_l 1 ((PS L (t :: r) d i).f_l.length : Int) = some (r.map tokT) := zw2 (tokT t) (r.map tokT) (by simp at hl ⊢; omega)
   have h0 : idx (PS L (t :: r) d i).f_l 0 = some (tokT t) := rfl
   simp only [Option.bind_eq_bind, Option.bind_some, Bool.not_true, Bool.false_eq_true, if_false, if_true, this, h0]
   rfl
theorem z84 {H : Nat} (hl : ts.length ≤ 2000) : TP L d i Prod.fst mkV H (fun _ => z09 (PS L ts d i)) (z83 L ts) := by
 unfold z09
 cases ts with
 | nil => exact TP.err (r := (⟨[], L, 5, L, d, i⟩, ByteArray.mk #[])) (fun n => by rw [zfw hl]; rfl) (by decide) ⟨rfl, rfl⟩
 | cons t r =>
  simp only [z83]
  cases hk : (t.kind == 1) with
  | true => exact TP.pure (fun n => by rw [zfw hl]; simp only [hk, if_true]; rfl)
  | false => exact TP.err (r := (⟨(t :: r).map tokT, L, 5, (t.at_ : Int), d, i⟩, ByteArray.mk #[])) (fun n => by rw [zfw hl]; simp only [hk, Bool.false_eq_true, if_false]; rfl) (by decide) ⟨rfl, rfl⟩
theorem zqu {H : Nat} (hl : ts.length ≤ 2000) : TP L d i Prod.fst mkV H (fun _ => z1a (PS L ts d i)) (sNum L ts) := by
 unfold z1a
 cases ts with
 | nil => exact TP.err (r := (⟨[], L, 5, L, d, i⟩, 0)) (fun n => by rw [zfw hl]; rfl) (by decide) ⟨rfl, rfl⟩
 | cons t r =>
  simp only [sNum]
  cases hk : (t.kind == 2) with
  | true => exact TP.pure (fun n => by rw [zfw hl]; simp only [hk, if_true]; rfl)
  | false => exact TP.err (r := (⟨(t :: r).map tokT, L, 5, (t.at_ : Int), d, i⟩, 0)) (fun n => by rw [zfw hl]; simp only [hk, Bool.false_eq_true, if_false]; rfl) (by decide) ⟨rfl, rfl⟩
def tp6 (a : z00) : List z08 × Int × Int × Int × Int × Int := (a.f_l, a.f_end, a.f_e, a.f_at, a.f_deep, a.f_in)
theorem zqv (hl : ts.length ≤ 2000) (ws : List ByteArray) (hw : ws.length ≤ 1000) : ∀ (m : List ByteArray) (k : Nat), ws.drop k = m → k ≤ ws.length →
  iter (z0e ws) ((k : Int), tp6 (PS L ts d i)) = some (match z3s m ts with | some j => .inl (PS L ts.tail d i, ((k + j : Nat) : Int)) | none => .inr (tp6 (PS L ts d i))) := by
 intro m
 induction m with
 | nil =>
  intro k hd hk
  have : k = ws.length := by have := List.drop_eq_nil_iff.1 hd; omega
  subst this
  refine z5v ?_
  unfold z0e
  rw [if_neg (by simp)]
  rfl
 | cons w m ih =>
  intro k hd hk
  have hlt : k < ws.length := by
   refine Nat.lt_of_not_le fun h => ?_
   rw [List.drop_of_length_le h] at hd; cases hd
  rw [List.drop_eq_getElem_cons hlt] at hd
  injection hd with h1 h2
  have hi : idx ws (k : Int) = some w := by rw [zhy hlt, h1]
  have hs : z0a (z00.mk (tp6 (PS L ts d i)).1 (tp6 (PS L ts d i)).2.1 (tp6 (PS L ts d i)).2.2.1 (tp6 (PS L ts d i)).2.2.2.1 (tp6 (PS L ts d i)).2.2.2.2.1 (tp6 (PS L ts d i)).2.2.2.2.2) w = _ := z6h hl w
  have hbody : z0e ws ((k : Int), tp6 (PS L ts d i)) = some (if z30 w ts then .inr (.inl (PS L ts.tail d i, (k : Int))) else .inl (((k + 1 : Nat) : Int), tp6 (PS L ts d i))) := by
   unfold z0e
   rw [if_pos (by simpa using hlt)]
   simp only [hi, Option.bind_eq_bind, Option.bind_some, hs, zqq (i := k) (by omega)]
   cases z30 w ts <;> rfl
  simp only [z3s]
  cases hsw : z30 w ts with
  | true =>
   rw [hsw, if_pos rfl] at hbody
   rw [z5v hbody]; simp
  | false =>
   rw [hsw, if_neg (by decide)] at hbody
   rw [zdk hbody, ih (k + 1) h2 hlt]
   cases z3s m ts with
   | none => simp
   | some j => simp; omega
theorem zgl (hl : ts.length ≤ 2000) (ws : List ByteArray) (hw : ws.length ≤ 1000) : z15 (PS L ts d i) ws = some (match z3s ws ts with | some j => (PS L ts.tail d i, (j : Int)) | none => (PS L ts d i, -1)) := by
 have h := zqv (L := L) (d := d) (i := i) hl ws hw ws 0 rfl (by omega)
 unfold z15 z1e
 have e : (((0 : Nat) : Int), tp6 (PS L ts d i)) = (0, (PS L ts d i).f_l, (PS L ts d i).f_end, (PS L ts d i).f_e, (PS L ts d i).f_at, (PS L ts d i).f_deep, (PS L ts d i).f_in) := rfl
 rw [← e, h]
 cases z3s ws ts with
 | none => rfl
 | some j => simp
end
/-! ### Where there is an error, nothing is done -/
section
variable {a : z00} (h : a.f_e ≠ 0)
include h
theorem e0 : (a.f_e == 0) = false := by simpa using h
theorem e1 : (a.f_e != 0) = true := by simpa using h
theorem zox (w : ByteArray) : z26 a w = some false := by unfold z26; rw [if_neg (by simp [h])]
theorem of_e (k : Int) : z41 a k = some false := by unfold z41; rw [if_neg (by simp [h])]
theorem zfx (c : Int) : z1h a c = some a := by unfold z1h; rw [if_pos (by simp [h])]
theorem zb2 (w : ByteArray) : z0a a w = some (a, false) := by unfold z0a; rw [zox h]; rfl
theorem z8w (w : ByteArray) : z04 a w = some a := by
 unfold z04; rw [zb2 h]
 simp only [Option.bind_eq_bind, Option.bind_some, Bool.not_false, if_true, zfx h]
theorem zs7 (k : Int) : z3v a k = some (a, ⟨0, ByteArray.mk #[], 0, 0⟩) := by
 unfold z3v; rw [of_e h]
 simp only [Option.bind_eq_bind, Option.bind_some, Bool.not_false, if_true, zfx h]
theorem zfy : z09 a = some (a, ByteArray.mk #[]) := by unfold z09; rw [zs7 h]; rfl
theorem zw3 : z1a a = some (a, 0) := by unfold z1a; rw [zs7 h]; rfl
theorem zoy (ws : List ByteArray) (hw : ws.length ≤ 1000) : z15 a ws = some (a, -1) := by
 have it : ∀ (m : List ByteArray) (k : Nat), ws.drop k = m → k ≤ ws.length → iter (z0e ws) ((k : Int), tp6 a) = some (.inr (tp6 a)) := by
  intro m
  induction m with
  | nil =>
   intro k hd hk
   have : k = ws.length := by have := List.drop_eq_nil_iff.1 hd; omega
   subst this
   refine z5v ?_
   unfold z0e
   rw [if_neg (by simp)]
   try rfl
  | cons w m ih =>
   intro k hd hk
   have hlt : k < ws.length := by
    refine Nat.lt_of_not_le fun h => ?_
    rw [List.drop_of_length_le h] at hd; cases hd
   rw [List.drop_eq_getElem_cons hlt] at hd
   injection hd with h1 h2
   have hi : idx ws (k : Int) = some w := by rw [zhy hlt, h1]
   have hs : z0a (z00.mk (tp6 a).1 (tp6 a).2.1 (tp6 a).2.2.1 (tp6 a).2.2.2.1 (tp6 a).2.2.2.2.1 (tp6 a).2.2.2.2.2) w = _ := zb2 h w
   rw [zdk (y := (((k + 1 : Nat) : Int), tp6 a))]
   ·exact ih (k + 1) h2 hlt
   ·unfold z0e
    rw [if_pos (by simpa using hlt)]
    simp only [hi, Option.bind_eq_bind, Option.bind_some, hs, zqq (i := k) (by omega)]
    rfl
 unfold z15 z1e
 have e : (((0 : Nat) : Int), tp6 a) = (0, a.f_l, a.f_end, a.f_e, a.f_at, a.f_deep, a.f_in) := rfl
 rw [← e, it ws 0 rfl (by omega)]
 try rfl
end
end Go.Proofs.YtokjbpmjdcbogaaGreatDoor.Abs.Par
/- The program's reader reads expressions as parsing does. -/
namespace Go.Proofs.YtokjbpmjdcbogaaGreatDoor.Abs.Par
open Go Go.RowKit Wri
set_option linter.unusedVariables false
set_option linter.unusedSimpArgs false
/-! ### What is left are the last words -/
theorem bind_ok {α β : Type} {o : Rs α} {k : α → List Tok → Rs β} {v : β} {r : List Tok} (h : o.bind k = .ok v r) : ∃ w s, o = .ok w s ∧ k w s = .ok v r := by
 cases o with
 | ok w s => exact ⟨w, s, rfl, h⟩
 | er c p => cases h
 | out => cases h
section
variable {L : Int}
theorem z2u {w : ByteArray} {ts : List Tok} (h : z30 w ts = true) : ts.tail.length < ts.length := by
 cases ts with
 | nil => cases h
 | cons t r => simp
theorem z5a {ts : List Tok} : ∀ {ws : List ByteArray} {j : Nat}, z3s ws ts = some j → ts.tail.length < ts.length ∧ j < ws.length
 | [], j, h => by cases h
 | w :: l, j, h => by
  simp only [z3s] at h
  split at h
  ·rename_i hs; injection h with h; subst h; exact ⟨z2u hs, by simp⟩
  ·cases hw : z3s l ts with
   | none => rw [hw] at h; cases h
   | some k =>
    rw [hw] at h; injection h with h
    have := z5a hw
    exact ⟨this.1, by rw [← h]; simp; omega⟩
theorem z12 {w : ByteArray} {ts r : List Tok} {v : Unit} (h : z5u L w ts = .ok v r) : r <:+ ts ∧ r.length < ts.length := by
 unfold z5u at h
 split at h
 ·rename_i hs; injection h with _ h; subst h; exact ⟨List.tail_suffix ts, z2u hs⟩
 ·cases h
theorem z1r {ts r : List Tok} {v : ByteArray} (h : z83 L ts = .ok v r) : r <:+ ts ∧ r.length < ts.length := by
 cases ts with
 | nil => cases h
 | cons t s =>
  simp only [z83] at h
  split at h
  ·injection h with _ h; subst h; exact ⟨List.suffix_cons t s, by simp⟩
  ·cases h
theorem z9b {ts r : List Tok} {v : Int} (h : sNum L ts = .ok v r) : r <:+ ts ∧ r.length < ts.length := by
 cases ts with
 | nil => cases h
 | cons t s =>
  simp only [sNum] at h
  split at h
  ·injection h with _ h; subst h; exact ⟨List.suffix_cons t s, by simp⟩
  ·cases h
structure Suf (L : Int) (f : Nat) : Prop where
 fac : ∀ d ts v r, z5d L f d ts = .ok v r → r <:+ ts
 mul : ∀ d e ts v r, sMul L f d e ts = .ok v r → r <:+ ts
 term : ∀ d ts v r, z9o L f d ts = .ok v r → r <:+ ts
 add : ∀ d e ts v r, sAdd L f d e ts = .ok v r → r <:+ ts
 exp : ∀ d ts v r, z9p L f d ts = .ok v r → r <:+ ts
theorem suf (L : Int) : ∀ f, Suf L f := by
 intro f
 induction f with
 | zero => exact ⟨fun d ts v r h => by simp [z5d] at h, fun d e ts v r h => by simp [sMul] at h, fun d ts v r h => by simp [z9o] at h, fun d e ts v r h => by simp [sAdd] at h, fun d ts v r h => by simp [z9p] at h⟩
 | succ f ih =>
  refine ⟨fun d ts v r h => ?_, fun d e ts v r h => ?_, fun d ts v r h => ?_, fun d e ts v r h => ?_, fun d ts v r h => ?_⟩
  ·simp only [z5d] at h
   split at h
   ·split at h
    ·cases h
    ·obtain ⟨w, s, h1, h2⟩ := bind_ok h
     injection h2 with _ h2; subst h2
     exact (ih.fac _ _ _ _ h1).trans (List.tail_suffix ts)
   ·split at h
    ·split at h
     ·cases h
     ·obtain ⟨w, s, h1, h2⟩ := bind_ok h
      obtain ⟨w', s', h3, h4⟩ := bind_ok h2
      injection h4 with _ h4; subst h4
      exact ((z12 h3).1.trans (ih.exp _ _ _ _ h1)).trans (List.tail_suffix ts)
    ·split at h
     ·obtain ⟨w, s, h1, h2⟩ := bind_ok h
      injection h2 with _ h2; subst h2
      exact (z9b h1).1
     ·obtain ⟨w, s, h1, h2⟩ := bind_ok h
      injection h2 with _ h2; subst h2
      exact (z1r h1).1
  ·simp only [sMul] at h
   split at h
   ·injection h with _ h; subst h; exact List.suffix_refl _
   ·obtain ⟨w, s, h1, h2⟩ := bind_ok h
    exact ((ih.mul _ _ _ _ _ h2).trans (ih.fac _ _ _ _ h1)).trans (List.tail_suffix ts)
  ·simp only [z9o] at h
   obtain ⟨w, s, h1, h2⟩ := bind_ok h
   exact (ih.mul _ _ _ _ _ h2).trans (ih.fac _ _ _ _ h1)
  ·simp only [sAdd] at h
   split at h
   ·injection h with _ h; subst h; exact List.suffix_refl _
   ·obtain ⟨w, s, h1, h2⟩ := bind_ok h
    exact ((ih.add _ _ _ _ _ h2).trans (ih.term _ _ _ _ h1)).trans (List.tail_suffix ts)
  ·simp only [z9p] at h
   obtain ⟨w, s, h1, h2⟩ := bind_ok h
   exact (ih.add _ _ _ _ _ h2).trans (ih.term _ _ _ _ h1)
end
/-! ### Errors -/
def zA : z03 := ⟨0, 0, ByteArray.mk #[], []⟩
def vA : z03 := ⟨2, 0, ByteArray.mk #[], []⟩
def tpE (a : z00) (e : z03) : List z08 × Int × Int × Int × Int × Int × Int × Int × ByteArray × List z03 := (a.f_l, a.f_end, a.f_e, a.f_at, a.f_deep, a.f_in, e.Kind, e.Num, e.Name, e.Kids)
noncomputable def MB (n : Nat) := z1i (z10 n) (z07 n) (z0x n) (z06 n) (z0c n) (z0y n) (z11 n) mulS 6
noncomputable def AB (n : Nat) := z1u (z10 n) (z07 n) (z0x n) (z06 n) (z0c n) (z0y n) (z11 n) addS 4
abbrev E10 := List z08 × Int × Int × Int × Int × Int × Int × Int × ByteArray × List z03
def finE (j1 : E10) : Option (z00 × z03) := some ((z00.mk j1.1 j1.2.1 j1.2.2.1 j1.2.2.2.1 j1.2.2.2.2.1 j1.2.2.2.2.2.1), (z03.mk j1.2.2.2.2.2.2.1 j1.2.2.2.2.2.2.2.1 j1.2.2.2.2.2.2.2.2.1 j1.2.2.2.2.2.2.2.2.2))
noncomputable def MF (n : Nat) (a : z00) (e : z03) : Option (z00 × z03) := iter (MB n) (tpE a e) >>= Sum.elim (fun _ => none) finE
noncomputable def AF (n : Nat) (a : z00) (e : z03) : Option (z00 × z03) := iter (AB n) (tpE a e) >>= Sum.elim (fun _ => none) finE
section
variable {a : z00} (h : a.f_e ≠ 0)
include h
theorem MF_e (n : Nat) (e : z03) : MF n a e = some (a, e) := by
 obtain ⟨k, m, s, l⟩ := e
 unfold MF
 rw [z5v (r := .inr (tpE a ⟨k, m, s, l⟩)) (by
  unfold MB z1i
  rw [if_neg (by simpa [tpE] using h)])]
 rfl
theorem AF_e (n : Nat) (e : z03) : AF n a e = some (a, e) := by
 obtain ⟨k, m, s, l⟩ := e
 unfold AF
 rw [z5v (r := .inr (tpE a ⟨k, m, s, l⟩)) (by
  unfold AB z1u
  rw [if_neg (by simpa [tpE] using h)])]
 rfl
theorem zqw (n : Nat) : Sn n 1 (z0c n a) (a, vA) := by
 cases n with
 | zero => exact .inr ⟨rfl, by omega⟩
 | succ n =>
  refine .inl ?_
  simp only [z0c, zox h, of_e h, zfy h, Option.bind_eq_bind, Option.bind_some, Bool.false_eq_true, if_false]
  rfl
theorem zqx (n : Nat) : Sn n 2 (z06 n a mulS 6) (a, vA) := by
 cases n with
 | zero => exact .inr ⟨rfl, by omega⟩
 | succ n =>
  simp only [z06]
  exact (Sn.bind (f := fun v1 => MF n v1.1 v1.2) (zqw h n) (.inl (MF_e h n vA))).up
theorem zw4 (n : Nat) : Sn n 3 (z0x n a) (a, vA) := by
 cases n with
 | zero => exact .inr ⟨rfl, by omega⟩
 | succ n =>
  simp only [z0x]
  exact (Sn.bind (f := fun v1 => some (v1.1, v1.2)) (zqx h n) (.inl rfl)).up
theorem zqy (n : Nat) : Sn n 4 (z07 n a addS 4) (a, vA) := by
 cases n with
 | zero => exact .inr ⟨rfl, by omega⟩
 | succ n =>
  simp only [z07]
  exact (Sn.bind (f := fun v1 => AF n v1.1 v1.2) (zw4 h n) (.inl (AF_e h n vA))).up
theorem zu5 (n : Nat) : Sn n 5 (z10 n a) (a, vA) := by
 cases n with
 | zero => exact .inr ⟨rfl, by omega⟩
 | succ n =>
  simp only [z10]
  exact (Sn.bind (f := fun v1 => some (v1.1, v1.2)) (zqy h n) (.inl rfl)).up
theorem zw5 : z3k a = some (a, vA) := Sn.unf fun n => zu5 h n
end
/-! ### Without -/
section
variable {L i : Int} {ts : List Tok} {d : Int}
theorem zw6 (hl : ts.length ≤ 2000) (n : Nat) (e : z03) : MF n (PS L ts d i) e = match z3s mulS ts with
  | none => some (PS L ts d i, e)
  | some j => z0c n (PS L ts.tail d i) >>= fun v => MF n v.1 ⟨6 + (j : Int), 0, ByteArray.mk #[], [e, v.2]⟩ := by
 obtain ⟨ek, em, es, el⟩ := e
 have hw := zgl (L := L) (d := d) (i := i) hl mulS (by decide)
 have hb : MB n (tpE (PS L ts d i) ⟨ek, em, es, el⟩) = match z3s mulS ts with
   | none => some (.inr (.inr (tpE (PS L ts d i) ⟨ek, em, es, el⟩)))
   | some j => z0c n (PS L ts.tail d i) >>= fun v => some (.inl (tpE v.1 ⟨6 + (j : Int), 0, ByteArray.mk #[], [⟨ek, em, es, el⟩, v.2]⟩)) := by
  unfold MB z1i
  rw [if_pos (by rfl)]
  show (z15 (PS L ts d i) mulS).bind _ = _
  rw [hw]
  cases hs : z3s mulS ts with
  | none => simp only [Option.bind_some]; rfl
  | some j =>
   have hj := (z5a hs).2
   have hj : j < 3 := hj
   have h1 : decide (((j : Nat) : Int) < 0) = false := by simp
   have h2 : IntKind.i64.wrap (6 + (j : Int)) = 6 + (j : Int) := w64 (by omega) (by omega)
   simp only [Option.bind_some, h1, Bool.false_eq_true, if_false, h2]
   rfl
 unfold MF
 rw [z9v, hb]
 cases hs : z3s mulS ts with
 | none => rfl
 | some j =>
  simp only [Option.bind_eq_bind, Option.bind_assoc, Option.bind_some]
theorem zw7 (hl : ts.length ≤ 2000) (n : Nat) (e : z03) : AF n (PS L ts d i) e = match z3s addS ts with
  | none => some (PS L ts d i, e)
  | some j => z0x n (PS L ts.tail d i) >>= fun v => AF n v.1 ⟨4 + (j : Int), 0, ByteArray.mk #[], [e, v.2]⟩ := by
 obtain ⟨ek, em, es, el⟩ := e
 have hw := zgl (L := L) (d := d) (i := i) hl addS (by decide)
 have hb : AB n (tpE (PS L ts d i) ⟨ek, em, es, el⟩) = match z3s addS ts with
   | none => some (.inr (.inr (tpE (PS L ts d i) ⟨ek, em, es, el⟩)))
   | some j => z0x n (PS L ts.tail d i) >>= fun v => some (.inl (tpE v.1 ⟨4 + (j : Int), 0, ByteArray.mk #[], [⟨ek, em, es, el⟩, v.2]⟩)) := by
  unfold AB z1u
  rw [if_pos (by rfl)]
  show (z15 (PS L ts d i) addS).bind _ = _
  rw [hw]
  cases hs : z3s addS ts with
  | none => simp only [Option.bind_some]; rfl
  | some j =>
   have hj := (z5a hs).2
   have hj : j < 2 := hj
   have h1 : decide (((j : Nat) : Int) < 0) = false := by simp
   have h2 : IntKind.i64.wrap (4 + (j : Int)) = 4 + (j : Int) := w64 (by omega) (by omega)
   simp only [Option.bind_some, h1, Bool.false_eq_true, if_false, h2]
   rfl
 unfold AF
 rw [z9v, hb]
 cases hs : z3s addS ts with
 | none => rfl
 | some j =>
  simp only [Option.bind_eq_bind, Option.bind_assoc, Option.bind_some]
end
abbrev mkE : z05 → z00 → z00 × z03 := fun v a => (a, cE v)
structure PX (L i : Int) (f : Nat) : Prop where
 fac : ∀ (d : Nat) ts, d ≤ 24 → ts.length ≤ 2000 → TP L d i Prod.fst mkE (2 * f) (fun n => z0c n (PS L ts d i)) (z5d L f d ts)
 mul : ∀ (d : Nat) e ts, d ≤ 24 → ts.length ≤ 2000 → TP L d i Prod.fst mkE (2 * f) (fun n => MF n (PS L ts d i) (cE e)) (sMul L f d e ts)
 term : ∀ (d : Nat) ts, d ≤ 24 → ts.length ≤ 2000 → TP L d i Prod.fst mkE (2 * f) (fun n => z0x n (PS L ts d i)) (z9o L f d ts)
 add : ∀ (d : Nat) e ts, d ≤ 24 → ts.length ≤ 2000 → TP L d i Prod.fst mkE (2 * f) (fun n => AF n (PS L ts d i) (cE e)) (sAdd L f d e ts)
 exp : ∀ (d : Nat) ts, d ≤ 24 → ts.length ≤ 2000 → TP L d i Prod.fst mkE (2 * f) (fun n => z10 n (PS L ts d i)) (z9p L f d ts)
theorem zb3 {ρ β : Type} {L d i : Int} {π : ρ → z00} {mk : β → z00 → ρ} {H : Nat} {x : Nat → Option ρ} : TP L d i π mk H x (.out : Rs β) := fun h => absurd rfl h
theorem ze4 {α β : Type} (x : Option (α × β)) : (x.bind fun v => some (v.1, v.2)) = x := by cases x <;> rfl
theorem z3d {a : z00} {c p : Int} (hc : c ≠ 0) (h : EP a c p) : a.f_e ≠ 0 := by rw [h.1]; exact hc
theorem zgm {L i : Int} {ts : List Tok} {d : Nat} (hd : d ≤ 24) : z4h (PS L ts d i) = some (if d = 24 then (⟨ts.map tokT, L, 6, sAt L ts, d, i⟩, false) else (PS L ts ((d + 1 : Nat) : Int) i, true)) := by
 unfold z4h
 by_cases h : d = 24
 ·subst h
  rw [if_pos (by rfl), zey]; rfl
 ·have : ((PS L ts (d : Int) i).f_deep == 24) = false := by
   show ((d : Int) == 24) = false
   simp; omega
  rw [this, if_neg (by decide), if_neg h]
  have hw : IntKind.i64.wrap ((d : Int) + 1) = ((d + 1 : Nat) : Int) := by rw [w64 (by omega) (by omega)]; omega
  show some ((⟨ts.map tokT, L, 0, 0, IntKind.i64.wrap ((d : Int) + 1), i⟩ : z00), true) = _
  rw [hw]; rfl
theorem px (L i : Int) : ∀ f, PX L i f := by
 intro f
 induction f with
 | zero => exact ⟨fun d ts _ _ => by simp only [z5d]; exact zb3, fun d e ts _ _ => by simp only [sMul]; exact zb3, fun d ts _ _ => by simp only [z9o]; exact zb3, fun d e ts _ _ => by simp only [sAdd]; exact zb3, fun d ts _ _ => by simp only [z9p]; exact zb3⟩
 | succ f ih =>
  have sf := suf L f
  refine ⟨fun d ts hd hl => ?_, fun d e ts hd hl => ?_, fun d ts hd hl => ?_, fun d e ts hd hl => ?_, fun d ts hd hl => ?_⟩
  ·-- a factor
   simp only [z5d]
   cases h1 : z30 (ByteArray.mk #[45]) ts with
   | true =>
    have hlt : ts.tail.length ≤ 2000 := by have := z2u h1; omega
    simp only [if_true]
    refine TP.up (H := 2 * f + 1) (x := fun n => z0y n (PS L ts d i)) rfl (fun n => by simp only [z0c, zbu, h1, Option.bind_eq_bind, Option.bind_some, if_true, ze4]) ?_
    by_cases h24 : d = 24
    ·rw [if_pos h24]
     refine TP.up (H := 2 * f) (x := fun _ => some (⟨ts.map tokT, L, 6, sAt L ts, d, i⟩, zA)) rfl (fun n => by simp only [z0y, zgm hd, if_pos h24, Option.bind_eq_bind, Option.bind_some]; rfl) ?_
     exact TP.err (fun n => rfl) (by decide) ⟨rfl, rfl⟩
    ·rw [if_neg h24]
     refine TP.up (H := 2 * f) (x := fun n => z0c n (PS L ts.tail ((d + 1 : Nat) : Int) i) >>= fun v3 => some ((z00.mk v3.1.f_l v3.1.f_end v3.1.f_e v3.1.f_at (IntKind.i64.wrap (v3.1.f_deep - 1)) v3.1.f_in), (z03.mk 3 0 (ByteArray.mk #[]) [v3.2]))) rfl (fun n => by
      simp only [z0y, zgm hd, if_neg h24, Option.bind_eq_bind, Option.bind_some, Bool.not_true, Bool.false_eq_true, if_false, zkx hl, h1, if_true]) ?_
     refine TP.bind (ih.fac (d + 1) ts.tail (by omega) hlt) (fun v r hv => TP.pure (fun n => ?_)) (fun r c p hc he => zcw (fun n => .inl rfl) ⟨he.1, he.2⟩)
     have hw : IntKind.i64.wrap (((d + 1 : Nat) : Int) - 1) = (d : Int) := by rw [w64 (by omega) (by omega)]; omega
     show some ((⟨r.map tokT, L, 0, 0, IntKind.i64.wrap (((d + 1 : Nat) : Int) - 1), i⟩ : z00), _) = _
     rw [hw]
     simp only [mkE, cE, cEs]; rfl
   | false =>
    simp only [Bool.false_eq_true, if_false]
    cases h2 : z30 (ByteArray.mk #[40]) ts with
    | true =>
     have hlt : ts.tail.length ≤ 2000 := by have := z2u h2; omega
     simp only [if_true]
     refine TP.up (H := 2 * f + 1) (x := fun n => z11 n (PS L ts d i)) rfl (fun n => by simp only [z0c, zbu, h1, h2, Option.bind_eq_bind, Option.bind_some, if_true, Bool.false_eq_true, if_false, ze4]) ?_
     by_cases h24 : d = 24
     ·rw [if_pos h24]
      refine TP.up (H := 2 * f) (x := fun _ => some (⟨ts.map tokT, L, 6, sAt L ts, d, i⟩, zA)) rfl (fun n => by simp only [z11, zgm hd, if_pos h24, Option.bind_eq_bind, Option.bind_some]; rfl) ?_
      exact TP.err (fun n => rfl) (by decide) ⟨rfl, rfl⟩
     ·rw [if_neg h24]
      refine TP.up (H := 2 * f) (x := fun n => z10 n (PS L ts.tail ((d + 1 : Nat) : Int) i) >>= fun v3 => z04 v3.1 (ByteArray.mk #[41]) >>= fun v4 => some ((z00.mk v4.f_l v4.f_end v4.f_e v4.f_at (IntKind.i64.wrap (v4.f_deep - 1)) v4.f_in), v3.2)) rfl (fun n => by
       simp only [z11, zgm hd, if_neg h24, Option.bind_eq_bind, Option.bind_some, Bool.not_true, Bool.false_eq_true, if_false, zkx hl, h2, if_true]) ?_
      refine TP.bind (ih.exp (d + 1) ts.tail (by omega) hlt) (fun v r hv => ?_) (fun r c p hc he => zcw (r := ((⟨r.1.f_l, r.1.f_end, r.1.f_e, r.1.f_at, IntKind.i64.wrap (r.1.f_deep - 1), r.1.f_in⟩ : z00), r.2)) (fun n => .inl (by rw [z8w (z3d hc he)]; rfl)) ⟨he.1, he.2⟩)
      have hr := (sf.exp _ _ _ _ hv).length_le
      refine TP.bind (π' := Prod.fst) (mk' := mkE) (k := fun n v4 => some ((z00.mk v4.f_l v4.f_end v4.f_e v4.f_at (IntKind.i64.wrap (v4.f_deep - 1)) v4.f_in), cE v)) (z5e (L := L) (d := ((d + 1 : Nat) : Int)) (i := i) (ts := r) (H := 2 * f) (by omega) (ByteArray.mk #[41])) (fun _ r' hv' => TP.pure (fun n => ?_)) (fun r c p hc he => zcw (fun n => .inl rfl) ⟨he.1, he.2⟩)
      have hw : IntKind.i64.wrap (((d + 1 : Nat) : Int) - 1) = (d : Int) := by rw [w64 (by omega) (by omega)]; omega
      show some ((⟨r'.map tokT, L, 0, 0, IntKind.i64.wrap (((d + 1 : Nat) : Int) - 1), i⟩ : z00), _) = _
      rw [hw]; rfl
    | false =>
     simp only [Bool.false_eq_true, if_false]
     cases h3 : sOf 2 ts with
     | true =>
      simp only [if_true]
      refine (TP.up (H := 2 * f) (x := fun n => z1a (PS L ts d i) >>= fun v6 => some (v6.1, (z03.mk 1 v6.2 (ByteArray.mk #[]) []))) rfl (fun n => by simp only [z0c, zbu, of_P, h1, h2, h3, Option.bind_eq_bind, Option.bind_some, if_true, Bool.false_eq_true, if_false]) ?_).mono (by omega)
      refine TP.bind (zqu hl) (fun v r hv => TP.pure (fun n => ?_)) (fun r c p hc he => zcw (fun n => .inl rfl) ⟨he.1, he.2⟩)
      simp only [mkE, cE, cEs]
     | false =>
      simp only [Bool.false_eq_true, if_false]
      refine (TP.up (H := 2 * f) (x := fun n => z09 (PS L ts d i) >>= fun v7 => some (v7.1, (z03.mk 2 0 v7.2 []))) rfl (fun n => by simp only [z0c, zbu, of_P, h1, h2, h3, Option.bind_eq_bind, Option.bind_some, Bool.false_eq_true, if_false]) ?_).mono (by omega)
      refine TP.bind (z84 hl) (fun v r hv => TP.pure (fun n => ?_)) (fun r c p hc he => zcw (fun n => .inl rfl) ⟨he.1, he.2⟩)
      simp only [mkE, cE, cEs]
  ·-- products
   simp only [sMul]
   cases hs : z3s mulS ts with
   | none => exact TP.pure (fun n => by rw [zw6 hl, hs])
   | some j =>
    have hlt := (z5a hs).1
    refine (TP.eq (y := fun n => z0c n (PS L ts.tail d i) >>= fun v => MF n v.1 ⟨6 + (j : Int), 0, ByteArray.mk #[], [cE e, v.2]⟩) ?_ (fun n => by rw [zw6 hl, hs])).mono (show 2 * f ≤ 2 * (f + 1) by omega)
    refine TP.bind (ih.fac d ts.tail hd (by omega)) (fun v r hv => ?_) (fun r c p hc he => zcw (fun n => .inl (MF_e (z3d hc he) n _)) ⟨he.1, he.2⟩)
    have hr := (sf.fac _ _ _ _ hv).length_le
    have := ih.mul d ⟨6 + (j : Int), 0, ByteArray.mk #[], [e, v]⟩ r hd (by omega)
    simp only [cE, cEs] at this
    exact this
  ·-- a term
   simp only [z9o]
   refine TP.up (H := 2 * f + 1) (x := fun n => z06 n (PS L ts d i) mulS 6) rfl (fun n => by simp only [z0x, Option.bind_eq_bind, ze4]; rfl) ?_
   refine TP.up (H := 2 * f) (x := fun n => z0c n (PS L ts d i) >>= fun v1 => MF n v1.1 v1.2) rfl (fun n => rfl) ?_
   refine TP.bind (ih.fac d ts hd hl) (fun v r hv => ?_) (fun r c p hc he => zcw (fun n => .inl (MF_e (z3d hc he) n _)) ⟨he.1, he.2⟩)
   have hr := (sf.fac _ _ _ _ hv).length_le
   exact ih.mul d v r hd (by omega)
  ·-- sums
   simp only [sAdd]
   cases hs : z3s addS ts with
   | none => exact TP.pure (fun n => by rw [zw7 hl, hs])
   | some j =>
    have hlt := (z5a hs).1
    refine (TP.eq (y := fun n => z0x n (PS L ts.tail d i) >>= fun v => AF n v.1 ⟨4 + (j : Int), 0, ByteArray.mk #[], [cE e, v.2]⟩) ?_ (fun n => by rw [zw7 hl, hs])).mono (show 2 * f ≤ 2 * (f + 1) by omega)
    refine TP.bind (ih.term d ts.tail hd (by omega)) (fun v r hv => ?_) (fun r c p hc he => zcw (fun n => .inl (AF_e (z3d hc he) n _)) ⟨he.1, he.2⟩)
    have hr := (sf.term _ _ _ _ hv).length_le
    have := ih.add d ⟨4 + (j : Int), 0, ByteArray.mk #[], [e, v]⟩ r hd (by omega)
    simp only [cE, cEs] at this
    exact this
  ·-- an expression
   simp only [z9p]
   refine TP.up (H := 2 * f + 1) (x := fun n => z07 n (PS L ts d i) addS 4) rfl (fun n => by simp only [z10, Option.bind_eq_bind, ze4]; rfl) ?_
   refine TP.up (H := 2 * f) (x := fun n => z0x n (PS L ts d i) >>= fun v1 => AF n v1.1 v1.2) rfl (fun n => rfl) ?_
   refine TP.bind (ih.term d ts hd hl) (fun v r hv => ?_) (fun r c p hc he => zcw (fun n => .inl (AF_e (z3d hc he) n _)) ⟨he.1, he.2⟩)
   have hr := (sf.term _ _ _ _ hv).length_le
   exact ih.add d v r hd (by omega)
end Go.Proofs.YtokjbpmjdcbogaaGreatDoor.Abs.Par
/- The program's reader reads comparisons and plain statements as parsing does. -/
namespace Go.Proofs.YtokjbpmjdcbogaaGreatDoor.Abs.Par
open Go Go.RowKit Wri
set_option linter.unusedVariables false
set_option linter.unusedSimpArgs false
/-! ### Fuel -/
theorem z0w {α β : Type} {o : Rs α} {k : α → List Tok → Rs β} (h : o.bind k = .out) : o = .out ∨ ∃ w s, o = .ok w s ∧ k w s = .out := by
 cases o with
 | ok w s => exact .inr ⟨w, s, rfl, h⟩
 | er c p => cases h
 | out => exact .inl rfl
theorem z44 {L : Int} {w : ByteArray} {ts : List Tok} : z5u L w ts ≠ .out := by unfold z5u; split <;> simp
theorem z62 {L : Int} {ts : List Tok} : z83 L ts ≠ .out := by
 cases ts with
 | nil => simp [z83]
 | cons t r => simp only [z83]; split <;> simp
theorem zky {L : Int} {ts : List Tok} : sNum L ts ≠ .out := by
 cases ts with
 | nil => simp [sNum]
 | cons t r => simp only [sNum]; split <;> simp
structure Fu (L : Int) (f : Nat) : Prop where
 fac : ∀ d ts, 4 * ts.length + 1 ≤ f → z5d L f d ts ≠ .out
 mul : ∀ d e ts, 4 * ts.length + 1 ≤ f → sMul L f d e ts ≠ .out
 term : ∀ d ts, 4 * ts.length + 2 ≤ f → z9o L f d ts ≠ .out
 add : ∀ d e ts, 4 * ts.length + 2 ≤ f → sAdd L f d e ts ≠ .out
 exp : ∀ d ts, 4 * ts.length + 3 ≤ f → z9p L f d ts ≠ .out
theorem fu (L : Int) : ∀ f, Fu L f := by
 intro f
 induction f with
 | zero => exact ⟨fun d ts h => by omega, fun d e ts h => by omega, fun d ts h => by omega, fun d e ts h => by omega, fun d ts h => by omega⟩
 | succ f ih =>
  have sf := suf L f
  refine ⟨fun d ts hf h => ?_, fun d e ts hf h => ?_, fun d ts hf h => ?_, fun d e ts hf h => ?_, fun d ts hf h => ?_⟩
  ·simp only [z5d] at h
   split at h
   ·rename_i h1
    have := z2u h1
    split at h
    ·cases h
    ·rcases z0w h with h | ⟨w, s, h2, h3⟩
     ·exact ih.fac _ _ (by omega) h
     ·cases h3
   ·split at h
    ·rename_i h1
     have := z2u h1
     split at h
     ·cases h
     ·rcases z0w h with h | ⟨w, s, h2, h3⟩
      ·exact ih.exp _ _ (by omega) h
      ·rcases z0w h3 with h | ⟨w, s, h4, h5⟩
       ·exact z44 h
       ·cases h5
    ·split at h
     ·rcases z0w h with h | ⟨w, s, h2, h3⟩
      ·exact zky h
      ·cases h3
     ·rcases z0w h with h | ⟨w, s, h2, h3⟩
      ·exact z62 h
      ·cases h3
  ·simp only [sMul] at h
   split at h
   ·cases h
   ·rename_i j hj
    have := (z5a hj).1
    rcases z0w h with h | ⟨w, s, h2, h3⟩
    ·exact ih.fac _ _ (by omega) h
    ·have := (sf.fac _ _ _ _ h2).length_le
     exact ih.mul _ _ _ (by omega) h3
  ·simp only [z9o] at h
   rcases z0w h with h | ⟨w, s, h2, h3⟩
   ·exact ih.fac _ _ (by omega) h
   ·have := (sf.fac _ _ _ _ h2).length_le
    exact ih.mul _ _ _ (by omega) h3
  ·simp only [sAdd] at h
   split at h
   ·cases h
   ·rename_i j hj
    have := (z5a hj).1
    rcases z0w h with h | ⟨w, s, h2, h3⟩
    ·exact ih.term _ _ (by omega) h
    ·have := (sf.term _ _ _ _ h2).length_le
     exact ih.add _ _ _ (by omega) h3
  ·simp only [z9p] at h
   rcases z0w h with h | ⟨w, s, h2, h3⟩
   ·exact ih.term _ _ (by omega) h
   ·have := (sf.term _ _ _ _ h2).length_le
    exact ih.add _ _ _ (by omega) h3
/-! ### What comparisons and plain statements are -/
section
variable (L : Int)
def eX (ts : List Tok) : Rs z05 := z9p L (4 * ts.length + 3) 0 ts
def cmpS : List ByteArray := [(ByteArray.mk #[61, 61]), (ByteArray.mk #[33, 61]), (ByteArray.mk #[60]), (ByteArray.mk #[60, 61]), (ByteArray.mk #[62]), (ByteArray.mk #[62, 61])]
def zez (ts : List Tok) : Rs z4f := (z5u L (ByteArray.mk #[40]) ts).bind fun _ r1 => (eX L r1).bind fun l r2 => match z3s cmpS r2 with
 | none => .er 5 (sAt L r2)
 | some j => (eX L r2.tail).bind fun r r3 => (z5u L (ByteArray.mk #[41]) r3).bind fun _ r4 => .ok ⟨1 + (j : Int), l, r⟩ r4
abbrev nB : ByteArray := ByteArray.mk #[]
def zgn (ts : List Tok) : Rs z0k := (z83 L ts).bind fun n r1 => (z5u L (ByteArray.mk #[46]) r1).bind fun _ r2 => (z83 L r2).bind fun t r3 => (z5u L (ByteArray.mk #[40]) r3).bind fun _ r4 =>
 (eX L r4).bind fun e r5 => (z5u L (ByteArray.mk #[41]) r5).bind fun _ r6 => (z5u L (ByteArray.mk #[59]) r6).bind fun _ r7 => .ok (.mk 4 n t e zC [] [] []) r7
def za5 (ts : List Tok) : Rs z0k := (zez L ts).bind fun c r1 => (z5u L (ByteArray.mk #[59]) r1).bind fun _ r2 => .ok (.mk 6 nB nB zE c [] [] []) r2
def zcy (ts : List Tok) : Rs z0k := (z83 L ts).bind fun n r1 => (z5u L (ByteArray.mk #[59]) r1).bind fun _ r2 => .ok (.mk 7 n nB zE zC [] [] []) r2
def z9a (ts : List Tok) : Rs z0k := (z83 L ts).bind fun n r1 => (z5u L (ByteArray.mk #[61]) r1).bind fun _ r2 => (eX L r2).bind fun e r3 => (z5u L (ByteArray.mk #[59]) r3).bind fun _ r4 => .ok (.mk 1 n nB e zC [] [] []) r4
end
section
variable {L : Int} {ts r : List Tok}
theorem zoi : eX L ts ≠ .out := (fu L _).exp _ _ (Nat.le_refl _)
theorem zdt {v : z05} (h : eX L ts = .ok v r) : r <:+ ts := (suf L _).exp _ _ _ _ h
theorem zji : zez L ts ≠ .out := fun h => by
 unfold zez at h
 rcases z0w h with h | ⟨_, r1, _, h⟩
 ·exact z44 h
 rcases z0w h with h | ⟨l, r2, _, h⟩
 ·exact zoi h
 split at h
 ·cases h
 rcases z0w h with h | ⟨_, r3, _, h⟩
 ·exact zoi h
 rcases z0w h with h | ⟨_, r4, _, h⟩
 ·exact z44 h
 ·cases h
theorem z8f {v : z4f} (h : zez L ts = .ok v r) : r <:+ ts ∧ r.length < ts.length := by
 unfold zez at h
 obtain ⟨_, r1, h1, h⟩ := bind_ok h
 obtain ⟨l, r2, h2, h⟩ := bind_ok h
 split at h
 ·cases h
 obtain ⟨e, r3, h3, h⟩ := bind_ok h
 obtain ⟨_, r4, h4, h⟩ := bind_ok h
 injection h with _ h; subst h
 have q1 := z12 h1
 have q2 := zdt h2
 have q3 := zdt h3
 have q4 := z12 h4
 have q := q4.1.trans (q3.trans ((List.tail_suffix r2).trans q2))
 exact ⟨q.trans q1.1, by have := q.length_le; omega⟩
theorem zu6 : zgn L ts ≠ .out := fun h => by
 unfold zgn at h
 rcases z0w h with h | ⟨_, _, _, h⟩
 ·exact z62 h
 rcases z0w h with h | ⟨_, _, _, h⟩
 ·exact z44 h
 rcases z0w h with h | ⟨_, _, _, h⟩
 ·exact z62 h
 rcases z0w h with h | ⟨_, _, _, h⟩
 ·exact z44 h
 rcases z0w h with h | ⟨_, _, _, h⟩
 ·exact zoi h
 rcases z0w h with h | ⟨_, _, _, h⟩
 ·exact z44 h
 rcases z0w h with h | ⟨_, _, _, h⟩
 ·exact z44 h
 ·cases h
theorem zqz {v : z0k} (h : zgn L ts = .ok v r) : r <:+ ts := by
 unfold zgn at h
 obtain ⟨_, r1, h1, h⟩ := bind_ok h
 obtain ⟨_, r2, h2, h⟩ := bind_ok h
 obtain ⟨_, r3, h3, h⟩ := bind_ok h
 obtain ⟨_, r4, h4, h⟩ := bind_ok h
 obtain ⟨_, r5, h5, h⟩ := bind_ok h
 obtain ⟨_, r6, h6, h⟩ := bind_ok h
 obtain ⟨_, r7, h7, h⟩ := bind_ok h
 injection h with _ h; subst h
 exact (z12 h7).1.trans ((z12 h6).1.trans ((zdt h5).trans ((z12 h4).1.trans ((z1r h3).1.trans ((z12 h2).1.trans (z1r h1).1)))))
theorem zoz : za5 L ts ≠ .out := fun h => by
 unfold za5 at h
 rcases z0w h with h | ⟨_, _, _, h⟩
 ·exact zji h
 rcases z0w h with h | ⟨_, _, _, h⟩
 ·exact z44 h
 ·cases h
theorem zmm {v : z0k} (h : za5 L ts = .ok v r) : r <:+ ts := by
 unfold za5 at h
 obtain ⟨_, r1, h1, h⟩ := bind_ok h
 obtain ⟨_, r2, h2, h⟩ := bind_ok h
 injection h with _ h; subst h
 exact (z12 h2).1.trans (z8f h1).1
theorem zr0 : zcy L ts ≠ .out := fun h => by
 unfold zcy at h
 rcases z0w h with h | ⟨_, _, _, h⟩
 ·exact z62 h
 rcases z0w h with h | ⟨_, _, _, h⟩
 ·exact z44 h
 ·cases h
theorem zp0 {v : z0k} (h : zcy L ts = .ok v r) : r <:+ ts := by
 unfold zcy at h
 obtain ⟨_, r1, h1, h⟩ := bind_ok h
 obtain ⟨_, r2, h2, h⟩ := bind_ok h
 injection h with _ h; subst h
 exact (z12 h2).1.trans (z1r h1).1
theorem zp1 : z9a L ts ≠ .out := fun h => by
 unfold z9a at h
 rcases z0w h with h | ⟨_, _, _, h⟩
 ·exact z62 h
 rcases z0w h with h | ⟨_, _, _, h⟩
 ·exact z44 h
 rcases z0w h with h | ⟨_, _, _, h⟩
 ·exact zoi h
 rcases z0w h with h | ⟨_, _, _, h⟩
 ·exact z44 h
 ·cases h
theorem zmn {v : z0k} (h : z9a L ts = .ok v r) : r <:+ ts ∧ r.length < ts.length := by
 unfold z9a at h
 obtain ⟨_, r1, h1, h⟩ := bind_ok h
 obtain ⟨_, r2, h2, h⟩ := bind_ok h
 obtain ⟨_, r3, h3, h⟩ := bind_ok h
 obtain ⟨_, r4, h4, h⟩ := bind_ok h
 injection h with _ h; subst h
 have q1 := z1r h1
 have q := (z12 h4).1.trans ((zdt h3).trans (z12 h2).1)
 exact ⟨q.trans q1.1, by have := q.length_le; omega⟩
end
/-! ### The program's -/
theorem zr1 {a : z00} (h : a.f_e ≠ 0) : z15 a [(ByteArray.mk #[61, 61]), (ByteArray.mk #[33, 61]), (ByteArray.mk #[60]), (ByteArray.mk #[60, 61]), (ByteArray.mk #[62]), (ByteArray.mk #[62, 61])] = some (a, -1) := zoy h _ (by decide)
instance : Inhabited z00 := ⟨⟨[], 0, 0, 0, 0, 0⟩⟩
instance : Inhabited z03 := ⟨zA⟩
instance : Inhabited z33 := ⟨⟨0, zA, zA⟩⟩
def zCA : z33 := ⟨0, zA, zA⟩
def zSA : z02 := .mk 0 nB nB zA zCA [] [] []
instance : Inhabited z02 := ⟨zSA⟩
instance : Inhabited ByteArray := ⟨nB⟩
theorem z2z {ρ : Type} {P : ρ → Prop} {x : Option ρ} {H : Nat} {r : ρ} (e : x = some r) (p : P r) : ∃ r, P r ∧ ∀ n, Sn n H x r := ⟨r, p, fun _ => .inl e⟩
theorem eP {a : z00} (h : a.f_e ≠ 0) : (∀ w, z04 a w = some a) ∧ z09 a = some (a, ByteArray.mk #[]) ∧ z1a a = some (a, 0) ∧ z3k a = some (a, vA) ∧ (∀ w, z0a a w = some (a, false)) ∧ (∀ c, z1h a c = some a) ∧ z15 a [(ByteArray.mk #[61, 61]), (ByteArray.mk #[33, 61]), (ByteArray.mk #[60]), (ByteArray.mk #[60, 61]), (ByteArray.mk #[62]), (ByteArray.mk #[62, 61])] = some (a, -1) := ⟨z8w h, zfy h, zw3 h, zw5 h, zb2 h, zfx h, zr1 h⟩
theorem neg1 : decide ((-1 : Int) < 0) = true := rfl
theorem zkz {L i : Int} {ts : List Tok} {H : Nat} (hl : ts.length ≤ 2000) : TP L 0 i Prod.fst mkE H (fun _ => z3k (PS L ts 0 i)) (eX L ts) :=
 ((px L i _).exp 0 ts (by omega) hl).unf.mono (Nat.zero_le _)
abbrev mkC : z4f → z00 → z00 × z33 := fun v a => (a, cC v)
theorem z35 {r ts : List Tok} (h : r <:+ ts) (hl : ts.length ≤ 2000) : r.length ≤ 2000 := by have := h.length_le; omega
theorem zp2 {L i : Int} {ts : List Tok} {H : Nat} (hl : ts.length ≤ 2000) : TP L 0 i Prod.fst mkC H (fun _ => z3l (PS L ts 0 i)) (zez L ts) := by
 unfold zez z3l
 refine TP.bind (π' := Prod.fst) (mk' := mkC) (z5e hl _) (fun _ r1 h1 => ?_) (fun r c p hc he => z2z (by simp only [eP (a := r) (z3d hc he), Option.bind_eq_bind, Option.bind_some, neg1, if_true]; rfl) ⟨he.1, he.2⟩)
 have l1 := z35 (z12 h1).1 hl
 refine TP.bind (π' := Prod.fst) (mk' := mkC) (zkz l1) (fun l r2 h2 => ?_) (fun r c p hc he => z2z (by simp only [eP (a := r.1) (z3d hc he), Option.bind_eq_bind, Option.bind_some, neg1, if_true]; rfl) ⟨he.1, he.2⟩)
 have l2 := z35 (zdt h2) l1
 have hw := zgl (L := L) (d := 0) (i := i) l2 cmpS (by decide)
 cases hs : z3s cmpS r2 with
 | none =>
  rw [hs] at hw
  refine TP.err (r := ((⟨r2.map tokT, L, 5, sAt L r2, 0, i⟩ : z00), ⟨0, cE l, zA⟩)) (fun n => ?_) (by decide) ⟨rfl, rfl⟩
  show (z15 (PS L r2 0 i) cmpS).bind _ = _
  rw [hw]
  simp only [Option.bind_some, neg1, if_true, zey, Option.bind_eq_bind]
  rfl
 | some j =>
  rw [hs] at hw
  have hj := (z5a hs).2
  have hj : j < 6 := hj
  have q1 : decide (((j : Nat) : Int) < 0) = false := by simp
  have q2 : IntKind.i64.wrap (1 + (j : Int)) = 1 + (j : Int) := w64 (by omega) (by omega)
  have l3 : r2.tail.length ≤ 2000 := by have := (z5a hs).1; omega
  refine TP.eq (y := fun _ => z3k (PS L r2.tail 0 i) >>= fun v5 => z04 v5.1 (ByteArray.mk #[41]) >>= fun v6 => some (v6, (z33.mk (1 + (j : Int)) (cE l) v5.2))) ?_ (fun n => by
   show (z15 (PS L r2 0 i) cmpS).bind _ = _
   rw [hw]
   simp only [Option.bind_some, q1, Bool.false_eq_true, if_false, q2])
  refine TP.bind (π' := Prod.fst) (mk' := mkC) (zkz l3) (fun e r3 h3 => ?_) (fun r c p hc he => z2z (by simp only [eP (a := r.1) (z3d hc he), Option.bind_eq_bind, Option.bind_some, neg1, if_true]; rfl) ⟨he.1, he.2⟩)
  have l4 := z35 (zdt h3) l3
  refine TP.bind (π' := Prod.fst) (mk' := mkC) (z5e l4 _) (fun _ r4 h4 => TP.pure (fun n => rfl)) (fun r c p hc he => z2z (by simp only [eP (a := r) (z3d hc he), Option.bind_eq_bind, Option.bind_some, neg1, if_true]; rfl) ⟨he.1, he.2⟩)
abbrev mkS : z0k → z00 → z00 × z02 := fun v a => (a, cS v)
theorem cZ : cE zE = zA := by simp only [zE, cE, cEs]; rfl
theorem cZC : cC zC = zCA := by unfold cC zC zCA; simp only [cZ]
theorem zw8 {L i : Int} {ts : List Tok} {H : Nat} (hl : ts.length ≤ 2000) : TP L 0 i Prod.fst mkS H (fun _ => z4u (PS L ts 0 i)) (zgn L ts) := by
 unfold zgn z4u
 refine TP.bind (π' := Prod.fst) (mk' := mkS) (z84 hl) (fun n r1 h1 => ?_) (fun r c p hc he => z2z (by simp only [eP (a := r.1) (z3d hc he), Option.bind_eq_bind, Option.bind_some, neg1, if_true]; rfl) ⟨he.1, he.2⟩)
 have l1 := z35 (z1r h1).1 hl
 refine TP.bind (π' := Prod.fst) (mk' := mkS) (z5e l1 _) (fun _ r2 h2 => ?_) (fun r c p hc he => z2z (by simp only [eP (a := r) (z3d hc he), Option.bind_eq_bind, Option.bind_some, neg1, if_true]; rfl) ⟨he.1, he.2⟩)
 have l2 := z35 (z12 h2).1 l1
 refine TP.bind (π' := Prod.fst) (mk' := mkS) (z84 l2) (fun t r3 h3 => ?_) (fun r c p hc he => z2z (by simp only [eP (a := r.1) (z3d hc he), Option.bind_eq_bind, Option.bind_some, neg1, if_true]; rfl) ⟨he.1, he.2⟩)
 have l3 := z35 (z1r h3).1 l2
 refine TP.bind (π' := Prod.fst) (mk' := mkS) (z5e l3 _) (fun _ r4 h4 => ?_) (fun r c p hc he => z2z (by simp only [eP (a := r) (z3d hc he), Option.bind_eq_bind, Option.bind_some, neg1, if_true]; rfl) ⟨he.1, he.2⟩)
 have l4 := z35 (z12 h4).1 l3
 refine TP.bind (π' := Prod.fst) (mk' := mkS) (zkz l4) (fun e r5 h5 => ?_) (fun r c p hc he => z2z (by simp only [eP (a := r.1) (z3d hc he), Option.bind_eq_bind, Option.bind_some, neg1, if_true]; rfl) ⟨he.1, he.2⟩)
 have l5 := z35 (zdt h5) l4
 refine TP.bind (π' := Prod.fst) (mk' := mkS) (z5e l5 _) (fun _ r6 h6 => ?_) (fun r c p hc he => z2z (by simp only [eP (a := r) (z3d hc he), Option.bind_eq_bind, Option.bind_some, neg1, if_true]; rfl) ⟨he.1, he.2⟩)
 have l6 := z35 (z12 h6).1 l5
 refine TP.bind (π' := Prod.fst) (mk' := mkS) (z5e l6 _) (fun _ r7 h7 => TP.pure (fun n => ?_)) (fun r c p hc he => z2z (by simp only [eP (a := r) (z3d hc he), Option.bind_eq_bind, Option.bind_some, neg1, if_true]; rfl) ⟨he.1, he.2⟩)
 simp only [mkS, cS, cZC, cL, cA]
 rfl
theorem zr2 {L i : Int} {ts : List Tok} {H : Nat} (hl : ts.length ≤ 2000) : TP L 0 i Prod.fst mkS H (fun _ => z47 (PS L ts 0 i)) (za5 L ts) := by
 unfold za5 z47
 refine TP.bind (π' := Prod.fst) (mk' := mkS) (zp2 hl) (fun n r1 h1 => ?_) (fun r c p hc he => z2z (by simp only [eP (a := r.1) (z3d hc he), Option.bind_eq_bind, Option.bind_some, neg1, if_true]; rfl) ⟨he.1, he.2⟩)
 have l1 := z35 (z8f h1).1 hl
 refine TP.bind (π' := Prod.fst) (mk' := mkS) (z5e l1 _) (fun _ r2 h2 => TP.pure (fun n => ?_)) (fun r c p hc he => z2z (by simp only [eP (a := r) (z3d hc he), Option.bind_eq_bind, Option.bind_some, neg1, if_true]; rfl) ⟨he.1, he.2⟩)
 simp only [mkS, cS, cZ, cL, cA]
 rfl
theorem zu7 {L i : Int} {ts : List Tok} {H : Nat} (hl : ts.length ≤ 2000) : TP L 0 i Prod.fst mkS H (fun _ => z4i (PS L ts 0 i)) (zcy L ts) := by
 unfold zcy z4i
 refine TP.bind (π' := Prod.fst) (mk' := mkS) (z84 hl) (fun n r1 h1 => ?_) (fun r c p hc he => z2z (by simp only [eP (a := r.1) (z3d hc he), Option.bind_eq_bind, Option.bind_some, neg1, if_true]; rfl) ⟨he.1, he.2⟩)
 have l1 := z35 (z1r h1).1 hl
 refine TP.bind (π' := Prod.fst) (mk' := mkS) (z5e l1 _) (fun _ r2 h2 => TP.pure (fun n => ?_)) (fun r c p hc he => z2z (by simp only [eP (a := r) (z3d hc he), Option.bind_eq_bind, Option.bind_some, neg1, if_true]; rfl) ⟨he.1, he.2⟩)
 simp only [mkS, cS, cZ, cZC, cL, cA]
 rfl
theorem zr3 {L i : Int} {ts : List Tok} {H : Nat} (hl : ts.length ≤ 2000) : TP L 0 i Prod.fst mkS H (fun _ => z48 (PS L ts 0 i)) (z9a L ts) := by
 unfold z9a z48
 refine TP.bind (π' := Prod.fst) (mk' := mkS) (z84 hl) (fun n r1 h1 => ?_) (fun r c p hc he => z2z (by simp only [eP (a := r.1) (z3d hc he), Option.bind_eq_bind, Option.bind_some, neg1, if_true]; rfl) ⟨he.1, he.2⟩)
 have l1 := z35 (z1r h1).1 hl
 refine TP.bind (π' := Prod.fst) (mk' := mkS) (z5e l1 _) (fun _ r2 h2 => ?_) (fun r c p hc he => z2z (by simp only [eP (a := r) (z3d hc he), Option.bind_eq_bind, Option.bind_some, neg1, if_true]; rfl) ⟨he.1, he.2⟩)
 have l2 := z35 (z12 h2).1 l1
 refine TP.bind (π' := Prod.fst) (mk' := mkS) (zkz l2) (fun e r3 h3 => ?_) (fun r c p hc he => z2z (by simp only [eP (a := r.1) (z3d hc he), Option.bind_eq_bind, Option.bind_some, neg1, if_true]; rfl) ⟨he.1, he.2⟩)
 have l3 := z35 (zdt h3) l2
 refine TP.bind (π' := Prod.fst) (mk' := mkS) (z5e l3 _) (fun _ r4 h4 => TP.pure (fun n => ?_)) (fun r c p hc he => z2z (by simp only [eP (a := r) (z3d hc he), Option.bind_eq_bind, Option.bind_some, neg1, if_true]; rfl) ⟨he.1, he.2⟩)
 simp only [mkS, cS, cZC, cL, cA]
 rfl
section
variable {a : z00} (h : a.f_e ≠ 0)
include h
end
end Go.Proofs.YtokjbpmjdcbogaaGreatDoor.Abs.Par
/- The program's reader reads statements as parsing does. -/
namespace Go.Proofs.YtokjbpmjdcbogaaGreatDoor.Abs.Par
open Go Go.RowKit Wri
set_option linter.unusedVariables false
set_option linter.unusedSimpArgs false
/-! ### What statements are -/
section
variable (L : Int)
mutual
def z61 : Nat → Nat → List Tok → Rs (List z0k)
 | 0, _, _ => .out
 | f + 1, i, ts => match z88 f i ts with
  | none => .ok [] ts
  | some o => o.bind fun s r => (z61 f i r).bind fun l r' => .ok (s :: l) r'
def z88 : Nat → Nat → List Tok → Option (Rs z0k)
 | 0, _, _ => some .out
 | f + 1, i, ts =>
  if z30 (ByteArray.mk #[105, 102]) ts then some ((zez L ts.tail).bind fun c r1 => (z7g f i r1).bind fun b r2 =>
   if z30 (ByteArray.mk #[101, 108, 115, 101]) r2 then (z7g f i r2.tail).bind fun l r3 => .ok (.mk 2 nB nB zE c b l []) r3 else .ok (.mk 2 nB nB zE c b [] []) r2)
  else if z30 (ByteArray.mk #[119, 104, 105, 108, 101]) ts then some ((zez L ts.tail).bind fun c r1 => (z7g f i r1).bind fun b r2 => .ok (.mk 3 nB nB zE c b [] []) r2)
  else if z30 (ByteArray.mk #[115, 101, 110, 100]) ts then some (zgn L ts.tail)
  else if z30 (ByteArray.mk #[114, 101, 99, 118]) ts then some ((z83 L ts.tail).bind fun n r1 => (z5u L (ByteArray.mk #[123]) r1).bind fun _ r2 => (sArm f i r2).bind fun a r3 => (zak f i r3).bind fun l r4 =>
   (z5u L (ByteArray.mk #[125]) r4).bind fun _ r5 => .ok (.mk 5 n nB zE zC [] [] (a :: l)) r5)
  else if z30 (ByteArray.mk #[97, 115, 115, 101, 114, 116]) ts then some (za5 L ts.tail)
  else if z30 (ByteArray.mk #[105, 110, 112, 117, 116]) ts then some (zcy L ts.tail)
  else if sOf 1 ts then some (z9a L ts)
  else none
def sArm : Nat → Nat → List Tok → Rs z4q
 | 0, _, _ => .out
 | f + 1, i, ts => (z83 L ts).bind fun t r1 => (z5u L (ByteArray.mk #[40]) r1).bind fun _ r2 => (z83 L r2).bind fun v r3 => (z5u L (ByteArray.mk #[41]) r3).bind fun _ r4 => (z7g f i r4).bind fun b r5 => .ok (.mk t v b) r5
def zak : Nat → Nat → List Tok → Rs (List z4q)
 | 0, _, _ => .out
 | f + 1, i, ts => if z30 (ByteArray.mk #[125]) ts then .ok [] ts else (sArm f i ts).bind fun a r => (zak f i r).bind fun l r' => .ok (a :: l) r'
def z7g : Nat → Nat → List Tok → Rs (List z0k)
 | 0, _, _ => .out
 | f + 1, i, ts => if z30 (ByteArray.mk #[123]) ts && decide (i = 24) then .er 6 (sAt L ts)
  else (z5u L (ByteArray.mk #[123]) ts).bind fun _ r1 => (z61 f (i + 1) r1).bind fun b r2 => (z5u L (ByteArray.mk #[125]) r2).bind fun _ r3 => .ok b r3
end
end
structure SufS (L : Int) (f : Nat) : Prop where
 stmts : ∀ i ts v r, z61 L f i ts = .ok v r → r <:+ ts
 stmt : ∀ i ts v r, z88 L f i ts = some (.ok v r) → r <:+ ts ∧ r.length < ts.length
 arm : ∀ i ts v r, sArm L f i ts = .ok v r → r <:+ ts ∧ r.length < ts.length
 arms : ∀ i ts v r, zak L f i ts = .ok v r → r <:+ ts
 block : ∀ i ts v r, z7g L f i ts = .ok v r → r <:+ ts
theorem zjj {r s ts : List Tok} (h : r <:+ s) (q : s <:+ ts) (w : s.length < ts.length) : r <:+ ts ∧ r.length < ts.length := ⟨h.trans q, by have := h.length_le; omega⟩
theorem z6q {w : ByteArray} {r ts : List Tok} (h : z30 w ts = true) (q : r <:+ ts.tail) : r <:+ ts ∧ r.length < ts.length := zjj q (List.tail_suffix ts) (z2u h)
theorem sufS (L : Int) : ∀ f, SufS L f := by
 intro f
 induction f with
 | zero => exact ⟨fun i ts v r h => by simp [z61] at h, fun i ts v r h => by simp [z88] at h, fun i ts v r h => by simp [sArm] at h, fun i ts v r h => by simp [zak] at h, fun i ts v r h => by simp [z7g] at h⟩
 | succ f ih =>
  refine ⟨fun i ts v r h => ?_, fun i ts v r h => ?_, fun i ts v r h => ?_, fun i ts v r h => ?_, fun i ts v r h => ?_⟩
  ·simp only [z61] at h
   split at h
   ·injection h with _ h; subst h; exact List.suffix_refl _
   ·rename_i o ho
    obtain ⟨s, r1, h1, h⟩ := bind_ok h
    obtain ⟨l, r2, h2, h⟩ := bind_ok h
    injection h with _ h; subst h
    subst h1
    exact (ih.stmts _ _ _ _ h2).trans (ih.stmt _ _ _ _ ho).1
  ·simp only [z88] at h
   split at h
   ·rename_i hs
    injection h with h
    obtain ⟨c, r1, h1, h⟩ := bind_ok h
    obtain ⟨b, r2, h2, h⟩ := bind_ok h
    have q := (ih.block _ _ _ _ h2).trans (z8f h1).1
    split at h
    ·obtain ⟨l, r3, h3, h⟩ := bind_ok h
     injection h with _ h; subst h
     exact z6q hs ((ih.block _ _ _ _ h3).trans ((List.tail_suffix r2).trans q))
    ·injection h with _ h; subst h
     exact z6q hs q
   split at h
   ·rename_i hs
    injection h with h
    obtain ⟨c, r1, h1, h⟩ := bind_ok h
    obtain ⟨b, r2, h2, h⟩ := bind_ok h
    injection h with _ h; subst h
    exact z6q hs ((ih.block _ _ _ _ h2).trans (z8f h1).1)
   split at h
   ·rename_i hs
    injection h with h
    exact z6q hs (zqz h)
   split at h
   ·rename_i hs
    injection h with h
    obtain ⟨n, r1, h1, h⟩ := bind_ok h
    obtain ⟨_, r2, h2, h⟩ := bind_ok h
    obtain ⟨a, r3, h3, h⟩ := bind_ok h
    obtain ⟨l, r4, h4, h⟩ := bind_ok h
    obtain ⟨_, r5, h5, h⟩ := bind_ok h
    injection h with _ h; subst h
    exact z6q hs ((z12 h5).1.trans ((ih.arms _ _ _ _ h4).trans ((ih.arm _ _ _ _ h3).1.trans ((z12 h2).1.trans (z1r h1).1))))
   split at h
   ·rename_i hs
    injection h with h
    exact z6q hs (zmm h)
   split at h
   ·rename_i hs
    injection h with h
    exact z6q hs (zp0 h)
   split at h
   ·injection h with h
    exact zmn h
   ·cases h
  ·simp only [sArm] at h
   obtain ⟨n, r1, h1, h⟩ := bind_ok h
   obtain ⟨_, r2, h2, h⟩ := bind_ok h
   obtain ⟨a, r3, h3, h⟩ := bind_ok h
   obtain ⟨_, r4, h4, h⟩ := bind_ok h
   obtain ⟨b, r5, h5, h⟩ := bind_ok h
   injection h with _ h; subst h
   have q := z1r h1
   exact zjj ((ih.block _ _ _ _ h5).trans ((z12 h4).1.trans ((z1r h3).1.trans (z12 h2).1))) q.1 q.2
  ·simp only [zak] at h
   split at h
   ·injection h with _ h; subst h; exact List.suffix_refl _
   ·obtain ⟨s, r1, h1, h⟩ := bind_ok h
    obtain ⟨l, r2, h2, h⟩ := bind_ok h
    injection h with _ h; subst h
    exact (ih.arms _ _ _ _ h2).trans (ih.arm _ _ _ _ h1).1
  ·simp only [z7g] at h
   split at h
   ·cases h
   ·obtain ⟨_, r1, h1, h⟩ := bind_ok h
    obtain ⟨b, r2, h2, h⟩ := bind_ok h
    obtain ⟨_, r3, h3, h⟩ := bind_ok h
    injection h with _ h; subst h
    exact (z12 h3).1.trans ((ih.stmts _ _ _ _ h2).trans (z12 h1).1)
structure FuS (L : Int) (f : Nat) : Prop where
 stmts : ∀ i ts, 3 * ts.length + 2 ≤ f → z61 L f i ts ≠ .out
 stmt : ∀ i ts, 3 * ts.length + 1 ≤ f → z88 L f i ts ≠ some .out
 arm : ∀ i ts, 3 * ts.length + 1 ≤ f → sArm L f i ts ≠ .out
 arms : ∀ i ts, 3 * ts.length + 2 ≤ f → zak L f i ts ≠ .out
 block : ∀ i ts, 3 * ts.length + 1 ≤ f → z7g L f i ts ≠ .out
theorem fuS (L : Int) : ∀ f, FuS L f := by
 intro f
 induction f with
 | zero => exact ⟨fun i ts h => by omega, fun i ts h => by omega, fun i ts h => by omega, fun i ts h => by omega, fun i ts h => by omega⟩
 | succ f ih =>
  have sf := sufS L f
  refine ⟨fun i ts hf h => ?_, fun i ts hf h => ?_, fun i ts hf h => ?_, fun i ts hf h => ?_, fun i ts hf h => ?_⟩
  ·simp only [z61] at h
   split at h
   ·cases h
   ·rename_i o ho
    rcases z0w h with h0 | ⟨s, r1, h1, h0⟩
    ·subst h0; exact ih.stmt _ _ (by omega) ho
    ·subst h1
     have := (sf.stmt _ _ _ _ ho).2
     rcases z0w h0 with h2 | ⟨l, r2, h2, h3⟩
     ·exact ih.stmts _ _ (by omega) h2
     ·cases h3
  ·simp only [z88] at h
   split at h
   ·rename_i hs
    have := z2u hs
    injection h with h
    rcases z0w h with h | ⟨c, r1, h1, h⟩
    ·exact zji h
    have q1 := (z8f h1).1.length_le
    rcases z0w h with h | ⟨b, r2, h2, h⟩
    ·exact ih.block _ _ (by omega) h
    have q2 := (sf.block _ _ _ _ h2).length_le
    split at h
    ·rename_i he
     have := z2u he
     rcases z0w h with h | ⟨l, r3, h3, h⟩
     ·exact ih.block _ _ (by omega) h
     ·cases h
    ·cases h
   split at h
   ·rename_i hs
    have := z2u hs
    injection h with h
    rcases z0w h with h | ⟨c, r1, h1, h⟩
    ·exact zji h
    have q1 := (z8f h1).1.length_le
    rcases z0w h with h | ⟨b, r2, h2, h⟩
    ·exact ih.block _ _ (by omega) h
    ·cases h
   split at h
   ·injection h with h; exact zu6 h
   split at h
   ·rename_i hs
    have := z2u hs
    injection h with h
    rcases z0w h with h | ⟨n, r1, h1, h⟩
    ·exact z62 h
    have q1 := (z1r h1).2
    rcases z0w h with h | ⟨_, r2, h2, h⟩
    ·exact z44 h
    have q2 := (z12 h2).2
    rcases z0w h with h | ⟨a, r3, h3, h⟩
    ·exact ih.arm _ _ (by omega) h
    have q3 := (sf.arm _ _ _ _ h3).2
    rcases z0w h with h | ⟨l, r4, h4, h⟩
    ·exact ih.arms _ _ (by omega) h
    rcases z0w h with h | ⟨_, r5, h5, h⟩
    ·exact z44 h
    ·cases h
   split at h
   ·injection h with h; exact zoz h
   split at h
   ·injection h with h; exact zr0 h
   split at h
   ·injection h with h; exact zp1 h
   ·cases h
  ·simp only [sArm] at h
   rcases z0w h with h | ⟨t, r1, h1, h⟩
   ·exact z62 h
   have q1 := (z1r h1).2
   rcases z0w h with h | ⟨_, r2, h2, h⟩
   ·exact z44 h
   have q2 := (z12 h2).2
   rcases z0w h with h | ⟨v, r3, h3, h⟩
   ·exact z62 h
   have q3 := (z1r h3).2
   rcases z0w h with h | ⟨_, r4, h4, h⟩
   ·exact z44 h
   have q4 := (z12 h4).2
   rcases z0w h with h | ⟨b, r5, h5, h⟩
   ·exact ih.block _ _ (by omega) h
   ·cases h
  ·simp only [zak] at h
   split at h
   ·cases h
   ·rcases z0w h with h | ⟨a, r1, h1, h⟩
    ·exact ih.arm _ _ (by omega) h
    have q1 := (sf.arm _ _ _ _ h1).2
    rcases z0w h with h | ⟨l, r2, h2, h⟩
    ·exact ih.arms _ _ (by omega) h
    ·cases h
  ·simp only [z7g] at h
   split at h
   ·cases h
   ·rcases z0w h with h | ⟨_, r1, h1, h⟩
    ·exact z44 h
    have q1 := (z12 h1).2
    rcases z0w h with h | ⟨b, r2, h2, h⟩
    ·exact ih.stmts _ _ (by omega) h
    rcases z0w h with h | ⟨_, r3, h3, h⟩
    ·exact z44 h
    ·cases h
/-! ### The program's loops -/
abbrev S7 := List z08 × Int × Int × Int × Int × Int × List z02
abbrev A7 := List z08 × Int × Int × Int × Int × Int × List z0r
def tpS (a : z00) (l : List z02) : S7 := (a.f_l, a.f_end, a.f_e, a.f_at, a.f_deep, a.f_in, l)
def tpA (a : z00) (l : List z0r) : A7 := (a.f_l, a.f_end, a.f_e, a.f_at, a.f_deep, a.f_in, l)
noncomputable def SB (n : Nat) := z57 (z0v n) (z0h n) (z0o n) (z19 n) (z16 n) (z0d n) (z0z n)
noncomputable def RB (n : Nat) := z43 (z0v n) (z0h n) (z0o n) (z19 n) (z16 n) (z0d n) (z0z n)
noncomputable def SL (n : Nat) (a : z00) (l : List z02) : Option (z00 × List z02) := iter (SB n) (tpS a l) >>= Sum.elim (fun r => some r) (fun _ => none)
noncomputable def AL (n : Nat) (a : z00) (l : List z0r) : Option (z00 × List z0r) := iter (RB n) (tpA a l) >>= Sum.elim (fun _ => none) (fun j1 => some (⟨j1.1, j1.2.1, j1.2.2.1, j1.2.2.2.1, j1.2.2.2.2.1, j1.2.2.2.2.2.1⟩, j1.2.2.2.2.2.2))
theorem zw9 (n : Nat) (a : z00) (l : List z02) : SL n a l = z0h n a >>= fun v1 => if (!v1.2.2) then some (v1.1, l) else app 288 l [v1.2.1] >>= fun v2 => SL n v1.1 v2 := by
 have hb : SB n (tpS a l) = z0h n a >>= fun v1 => if (!v1.2.2) then some (.inr (.inl (v1.1, l))) else app 288 l [v1.2.1] >>= fun v2 => some (.inl (tpS v1.1 v2)) := rfl
 unfold SL
 rw [z9v, hb]
 simp only [Option.bind_eq_bind, Option.bind_assoc]
 congr 1; funext v1
 cases v1.2.2 with
 | false => rfl
 | true =>
  simp only [Bool.not_true, Bool.false_eq_true, if_false, Option.bind_assoc]
  congr 1
theorem AL_e {a : z00} (h : a.f_e ≠ 0) (n : Nat) (l : List z0r) : AL n a l = some (a, l) := by
 unfold AL
 rw [z5v (r := .inr (tpA a l)) (by
  unfold RB z43
  rw [if_neg (by simpa [tpA] using h)]
  rfl)]
 rfl
theorem zxm {L d i : Int} {ts : List Tok} (n : Nat) (l : List z0r) : AL n (PS L ts d i) l = if z30 (ByteArray.mk #[125]) ts then some (PS L ts d i, l) else z0z n (PS L ts d i) >>= fun v => app 56 l [v.2] >>= fun v2 => AL n v.1 v2 := by
 have hb : RB n (tpA (PS L ts d i) l) = if z30 (ByteArray.mk #[125]) ts then some (.inr (.inr (tpA (PS L ts d i) l))) else z0z n (PS L ts d i) >>= fun v => app 56 l [v.2] >>= fun v2 => some (.inl (tpA v.1 v2)) := by
  unfold RB z43
  rw [if_pos (by rfl)]
  show ((z26 (PS L ts d i) (ByteArray.mk #[125]) >>= fun v5 => some (!v5)) >>= _) = _
  rw [zbu]
  cases z30 (ByteArray.mk #[125]) ts <;> rfl
 unfold AL
 rw [z9v, hb]
 cases z30 (ByteArray.mk #[125]) ts with
 | true => rfl
 | false =>
  simp only [Option.bind_eq_bind, Option.bind_assoc, Bool.false_eq_true, if_false]
  congr 1
/-! ### Errors -/
section
variable {a : z00} (h : a.f_e ≠ 0)
include h
theorem zwa (n : Nat) : Sn n 1 (z0h n a) (a, zSA, false) := by
 cases n with
 | zero => exact .inr ⟨rfl, by omega⟩
 | succ n =>
  refine .inl ?_
  simp only [z0h, zb2 h, of_e h, Option.bind_eq_bind, Option.bind_some, Bool.false_eq_true, if_false]
  rfl
theorem SL_e (n : Nat) (l : List z02) : Sn n 1 (SL n a l) (a, l) := by
 rw [zw9]
 exact Sn.bind (f := fun v1 => if (!v1.2.2) then some (v1.1, l) else app 288 l [v1.2.1] >>= fun v2 => SL n v1.1 v2) (zwa h n) (.inl rfl)
theorem zjk (n : Nat) : Sn n 2 (z0v n a) (a, []) := by
 cases n with
 | zero => exact .inr ⟨rfl, by omega⟩
 | succ n => exact (SL_e h n []).up
end
def bE (a : z00) : z00 := ⟨a.f_l, a.f_end, a.f_e, a.f_at, a.f_deep, IntKind.i64.wrap (IntKind.i64.wrap (a.f_in + 1) - 1)⟩
section
variable {a : z00} (h : a.f_e ≠ 0)
include h
theorem zgo (n : Nat) : Sn n 3 (z0d n a) (bE a, []) := by
 cases n with
 | zero => exact .inr ⟨rfl, by omega⟩
 | succ n =>
  simp only [z0d, zox h, Option.bind_eq_bind, Option.bind_some, Bool.false_eq_true, if_false, z8w h]
  refine (Sn.bind (f := fun v4 : z00 × List z02 => (z04 (z00.mk v4.1.f_l v4.1.f_end v4.1.f_e v4.1.f_at v4.1.f_deep (IntKind.i64.wrap (v4.1.f_in - 1))) (ByteArray.mk #[125])).bind fun v5 => some (v5, v4.2)) (zjk (a := ⟨a.f_l, a.f_end, a.f_e, a.f_at, a.f_deep, IntKind.i64.wrap (a.f_in + 1)⟩) h n) (.inl ?_)).up
  show (z04 (bE a) (ByteArray.mk #[125])).bind _ = _
  rw [z8w (a := bE a) h]; rfl
theorem zxn (n : Nat) : Sn n 4 (z0z n a) (bE a, .mk nB nB []) := by
 cases n with
 | zero => exact .inr ⟨rfl, by omega⟩
 | succ n =>
  simp only [z0z, zfy h, z8w h, Option.bind_eq_bind, Option.bind_some]
  exact (Sn.bind (f := fun v5 : z00 × List z02 => some (v5.1, z0r.mk (ByteArray.mk #[]) (ByteArray.mk #[]) v5.2)) (zgo h n) (.inl rfl)).up
end
/-! ### The program's statements -/
def TS (L i : Int) (H : Nat) (x : Nat → Option (z00 × z02 × Bool)) (ts : List Tok) : Option (Rs z0k) → Prop
 | none => ∀ n, Sn n H (x n) (PS L ts 0 i, zSA, false)
 | some o => TP L 0 i Prod.fst (fun v a => (a, cS v, true)) H x o
structure PT (L : Int) (f : Nat) : Prop where
 stmts : ∀ (i : Nat) ts acc, i ≤ 24 → ts.length ≤ 2000 → acc.length + ts.length ≤ 2000 → TP L 0 i Prod.fst (fun v a => (a, acc ++ cL v)) (2 * f + 6) (fun n => SL n (PS L ts 0 i) acc) (z61 L f i ts)
 stmt : ∀ (i : Nat) ts, i ≤ 24 → ts.length ≤ 2000 → TS L i (2 * f + 6) (fun n => z0h n (PS L ts 0 i)) ts (z88 L f i ts)
 arm : ∀ (i : Nat) ts, i ≤ 24 → ts.length ≤ 2000 → TP L 0 i Prod.fst (fun v a => (a, cArm v)) (2 * f + 6) (fun n => z0z n (PS L ts 0 i)) (sArm L f i ts)
 arms : ∀ (i : Nat) ts acc, i ≤ 24 → ts.length ≤ 2000 → acc.length + ts.length ≤ 2000 → TP L 0 i Prod.fst (fun v a => (a, acc ++ cA v)) (2 * f + 6) (fun n => AL n (PS L ts 0 i) acc) (zak L f i ts)
 block : ∀ (i : Nat) ts, i ≤ 24 → ts.length ≤ 2000 → TP L 0 i Prod.fst (fun v a => (a, cL v)) (2 * f + 6) (fun n => z0d n (PS L ts 0 i)) (z7g L f i ts)
theorem TP.map {ρ β γ : Type} {L d i : Int} {π : ρ → z00} {mk : β → z00 → ρ} {mk' : γ → z00 → ρ} {H : Nat} {x : Nat → Option ρ} {o : Rs β} {g : β → γ}
  (h : TP L d i π mk H x o) (e : ∀ v a, mk v a = mk' (g v) a) : TP L d i π mk' H x (o.bind fun v r => .ok (g v) r) := by
 intro hne
 cases o with
 | ok v ts =>
  obtain ⟨r, hr, hs⟩ := h (by simp)
  exact ⟨r, Eq.trans hr (e v _), hs⟩
 | er c p => exact h (by simp)
 | out => exact absurd rfl hne
theorem zs8 (x : z4q) (l : List z4q) : cA (x :: l) = cArm x :: cA l := by cases x; rfl
abbrev mkL : List z0k → z00 → z00 × List z02 := fun v a => (a, cL v)
abbrev mkT : z0k → z00 → z00 × z02 × Bool := fun v a => (a, cS v, true)
theorem zf0 {L i : Int} {H : Nat} {x : Nat → Option (z00 × z02)} {o : Rs z0k} (h : TP L 0 i Prod.fst mkS H x o) : TP L 0 i Prod.fst mkT H (fun n => x n >>= fun v => some (v.1, v.2, true)) o := by
 intro hne
 obtain ⟨r, g, s⟩ := h hne
 refine ⟨(r.1, r.2, true), ?_, fun n => Sn.bind (f := fun v => some (v.1, v.2, true)) (s n) (.inl rfl)⟩
 cases o with
 | ok v ts => have g : r = mkS v (PS L ts 0 i) := g; subst g; rfl
 | er c p => exact g
 | out => exact absurd rfl hne
theorem pt (L : Int) : ∀ f, PT L f := by
 intro f
 induction f with
 | zero => exact ⟨fun i ts acc _ _ _ => by simp only [z61]; exact zb3, fun i ts _ _ => by simp only [z88]; exact zb3, fun i ts _ _ => by simp only [sArm]; exact zb3, fun i ts acc _ _ _ => by simp only [zak]; exact zb3, fun i ts _ _ => by simp only [z7g]; exact zb3⟩
 | succ f ih =>
  have sf := sufS L f
  refine ⟨fun i ts acc hi hl ha => ?_, fun i ts hi hl => ?_, fun i ts hi hl => ?_, fun i ts acc hi hl ha => ?_, fun i ts hi hl => ?_⟩
  ·-- statements
   simp only [z61]
   have h1 := ih.stmt i ts hi hl
   refine TP.eq (y := fun n => z0h n (PS L ts 0 i) >>= fun v1 => if (!v1.2.2) then some (v1.1, acc) else app 288 acc [v1.2.1] >>= fun v2 => SL n v1.1 v2) ?_ (fun n => zw9 n _ _)
   cases hs : z88 L f i ts with
   | none =>
    rw [hs] at h1
    have h1 : ∀ n, Sn n (2 * f + 6) (z0h n (PS L ts 0 i)) (PS L ts 0 i, zSA, false) := h1
    refine fun _ => ⟨(PS L ts 0 i, acc), by simp [GP, cL], fun n => ((h1 n).mono (show 2 * f + 6 ≤ 2 * (f + 1) + 6 by omega)).bind (f := fun v1 => if (!v1.2.2) then some (v1.1, acc) else app 288 acc [v1.2.1] >>= fun v2 => SL n v1.1 v2) (.inl rfl)⟩
   | some o =>
    rw [hs] at h1
    have h1 : TP L 0 i Prod.fst mkT (2 * f + 6) (fun n => z0h n (PS L ts 0 i)) o := h1
    refine TP.mono (H := 2 * f + 6) ?_ (by omega)
    refine TP.bind (π' := Prod.fst) (mk' := fun v a => (a, acc ++ cL v)) h1 (fun s r ho => ?_) (fun r c p hc he => ?_)
    ·subst ho
     have q := sf.stmt _ _ _ _ hs
     have ql := z35 q.1 hl
     refine TP.eq (y := fun n => SL n (PS L r 0 i) (acc ++ [cS s])) ?_ (fun n => ?_)
     ·refine TP.map (g := fun l => s :: l) (ih.stmts i r (acc ++ [cS s]) hi ql (by simp; omega)) (fun v a => ?_)
      simp [cL]
     ·show (if (!true) then _ else (app 288 acc [cS s]).bind _) = _
      rw [z63 (by simp; omega)]; rfl
    ·have hq : r.1.f_e ≠ 0 := z3d hc he
     cases hb : r.2.2 with
     | false => exact ⟨(r.1, acc), he, fun n => .inl rfl⟩
     | true =>
      refine ⟨(r.1, acc ++ [r.2.1]), he, fun n => ?_⟩
      show Sn n _ (app 288 acc [r.2.1] >>= fun v2 => SL n r.1 v2) _
      rw [z63 (by simp; omega)]
      exact (SL_e hq n _).mono (by omega)
  ·-- a statement
   simp only [z88]
   cases h1 : z30 (ByteArray.mk #[105, 102]) ts with
   | true =>
    have l0 : ts.tail.length ≤ 2000 := by have := z2u h1; omega
    simp only [if_true]
    refine TP.up (H := 2 * f + 7) (x := fun n => z0o n (PS L ts.tail 0 i) >>= fun v => some (v.1, v.2, true)) rfl (fun n => by simp only [z0h, z6h hl, h1, Option.bind_eq_bind, Option.bind_some, if_true]) ?_
    refine zf0 ?_
    refine TP.up (H := 2 * f + 6) (x := fun n => z3l (PS L ts.tail 0 i) >>= fun v1 => z0d n v1.1 >>= fun v2 => z0a v2.1 (ByteArray.mk #[101, 108, 115, 101]) >>= fun v3 => if v3.2 then (z0d n v3.1 >>= fun v4 => some (v4.1, (z02.mk 2 nB nB zA v1.2 v2.2 v4.2 []))) else (some (v3.1, (z02.mk 2 nB nB zA v1.2 v2.2 [] [])))) rfl (fun n => rfl) ?_
    refine TP.bind (π' := Prod.fst) (mk' := mkS) (zp2 l0) (fun c r1 h2 => ?_) (fun r c p hc he => ⟨(bE r.1, .mk 2 nB nB zA r.2 [] [] []), he, fun n => ((zgo (z3d hc he) n).mono (by omega)).bind (f := fun v2 => z0a v2.1 (ByteArray.mk #[101, 108, 115, 101]) >>= fun v3 => if v3.2 then (z0d n v3.1 >>= fun v4 => some (v4.1, (z02.mk 2 nB nB zA r.2 v2.2 v4.2 []))) else (some (v3.1, (z02.mk 2 nB nB zA r.2 v2.2 [] [])))) (.inl (by rw [zb2 (a := bE r.1) (z3d hc he)]; rfl))⟩)
    have l1 := z35 (z8f h2).1 l0
    refine TP.bind (π' := Prod.fst) (mk' := mkS) (ih.block i r1 hi l1) (fun b r2 h3 => ?_) (fun r cc p hc he => ⟨(r.1, .mk 2 nB nB zA (cC c) r.2 [] []), he, fun n => .inl (by rw [zb2 (a := r.1) (z3d hc he)]; rfl)⟩)
    have l2 := z35 (sf.block _ _ _ _ h3) l1
    cases h4 : z30 (ByteArray.mk #[101, 108, 115, 101]) r2 with
    | true =>
     have l3 : r2.tail.length ≤ 2000 := by have := z2u h4; omega
     simp only [if_true]
     refine TP.eq (y := fun n => z0d n (PS L r2.tail 0 i) >>= fun v4 => some (v4.1, (z02.mk 2 nB nB zA (cC c) (cL b) v4.2 []))) ?_ (fun n => by simp only [z6h l2, h4, Option.bind_eq_bind, Option.bind_some, if_true])
     refine TP.bind (π' := Prod.fst) (mk' := mkS) (ih.block i r2.tail hi l3) (fun l r3 h5 => TP.pure (fun n => ?_)) (fun r cc p hc he => ⟨(r.1, .mk 2 nB nB zA (cC c) (cL b) r.2 []), he, fun n => .inl rfl⟩)
     simp only [mkS, cS, cZ, cA]
    | false =>
     simp only [Bool.false_eq_true, if_false]
     refine TP.pure (fun n => ?_)
     simp only [z6h l2, h4, Option.bind_eq_bind, Option.bind_some, Bool.false_eq_true, if_false, mkS, cS, cZ, cA, cL]
   | false =>
   simp only [Bool.false_eq_true, if_false]
   cases h2 : z30 (ByteArray.mk #[119, 104, 105, 108, 101]) ts with
   | true =>
    have l0 : ts.tail.length ≤ 2000 := by have := z2u h2; omega
    simp only [if_true]
    refine TP.up (H := 2 * f + 7) (x := fun n => z19 n (PS L ts.tail 0 i) >>= fun v => some (v.1, v.2, true)) rfl (fun n => by simp only [z0h, z6h hl, h1, h2, Option.bind_eq_bind, Option.bind_some, if_true, Bool.false_eq_true, if_false]) ?_
    refine zf0 ?_
    refine TP.up (H := 2 * f + 6) (x := fun n => z3l (PS L ts.tail 0 i) >>= fun v1 => z0d n v1.1 >>= fun v2 => some (v2.1, (z02.mk 3 nB nB zA v1.2 v2.2 [] []))) rfl (fun n => rfl) ?_
    refine TP.bind (π' := Prod.fst) (mk' := mkS) (zp2 l0) (fun c r1 h2 => ?_) (fun r c p hc he => ⟨(bE r.1, .mk 3 nB nB zA r.2 [] [] []), he, fun n => ((zgo (z3d hc he) n).mono (by omega)).bind (f := fun v2 => some (v2.1, (z02.mk 3 nB nB zA r.2 v2.2 [] []))) (.inl rfl)⟩)
    have l1 := z35 (z8f h2).1 l0
    refine TP.bind (π' := Prod.fst) (mk' := mkS) (ih.block i r1 hi l1) (fun b r2 h3 => TP.pure (fun n => ?_)) (fun r cc p hc he => ⟨(r.1, .mk 3 nB nB zA (cC c) r.2 [] []), he, fun n => .inl rfl⟩)
    simp only [mkS, cS, cZ, cA, cL]
   | false =>
   simp only [Bool.false_eq_true, if_false]
   cases h3 : z30 (ByteArray.mk #[115, 101, 110, 100]) ts with
   | true =>
    have l0 : ts.tail.length ≤ 2000 := by have := z2u h3; omega
    simp only [if_true]
    refine TP.mono (H := 1) ?_ (by omega)
    refine TP.up (H := 0) (x := fun n => z4u (PS L ts.tail 0 i) >>= fun v => some (v.1, v.2, true)) rfl (fun n => by simp only [z0h, z6h hl, h1, h2, h3, Option.bind_eq_bind, Option.bind_some, if_true, Bool.false_eq_true, if_false]) ?_
    exact zf0 (zw8 l0)
   | false =>
   simp only [Bool.false_eq_true, if_false]
   cases h4 : z30 (ByteArray.mk #[114, 101, 99, 118]) ts with
   | true =>
    have l0 : ts.tail.length ≤ 2000 := by have := z2u h4; omega
    simp only [if_true]
    refine TP.up (H := 2 * f + 7) (x := fun n => z16 n (PS L ts.tail 0 i) >>= fun v => some (v.1, v.2, true)) rfl (fun n => by simp only [z0h, z6h hl, h1, h2, h3, h4, Option.bind_eq_bind, Option.bind_some, if_true, Bool.false_eq_true, if_false]) ?_
    refine zf0 ?_
    refine TP.up (H := 2 * f + 6) (x := fun n => z09 (PS L ts.tail 0 i) >>= fun v1 => z04 v1.1 (ByteArray.mk #[123]) >>= fun v2 => z0z n v2 >>= fun v3 => app 56 [] [v3.2] >>= fun v4 => AL n v3.1 v4 >>= fun w => z04 w.1 (ByteArray.mk #[125]) >>= fun v8 => some (v8, (z02.mk 5 v1.2 nB zA zCA [] [] w.2))) rfl (fun n => by
     simp only [z16, Option.bind_eq_bind]
     congr 1; funext v1
     congr 1; funext v2
     congr 1; funext v3
     congr 1; funext v4
     unfold AL
     rw [Option.bind_eq_bind, Option.bind_assoc]
     show (iter (RB n) (tpA v3.1 v4)).bind _ = (iter (RB n) (tpA v3.1 v4)).bind _
     congr 1; funext o
     cases o <;> rfl) ?_
    have er : ∀ (a : z00) (m : ByteArray), a.f_e ≠ 0 → ∀ n, Sn n (2 * f + 6) (z0z n a >>= fun v3 => app 56 [] [v3.2] >>= fun v4 => AL n v3.1 v4 >>= fun w => z04 w.1 (ByteArray.mk #[125]) >>= fun v8 => some (v8, (z02.mk 5 m nB zA zCA [] [] w.2))) (bE a, .mk 5 m nB zA zCA [] [] [.mk nB nB []]) := fun a m h n => by
     refine ((zxn h n).mono (show 4 ≤ 2 * f + 6 by omega)).bind (f := fun v3 => app 56 [] [v3.2] >>= fun v4 => AL n v3.1 v4 >>= fun w => z04 w.1 (ByteArray.mk #[125]) >>= fun v8 => some (v8, (z02.mk 5 m nB zA zCA [] [] w.2))) (.inl ?_)
     rw [z63 (by simp)]
     show (AL n (bE a) _).bind _ = _
     rw [AL_e (a := bE a) h]
     show (z04 (bE a) _).bind _ = _
     rw [z8w (a := bE a) h]; rfl
    refine TP.bind (π' := Prod.fst) (mk' := mkS) (z84 l0) (fun m r1 q1 => ?_) (fun r c p hc he => ⟨(bE r.1, .mk 5 r.2 nB zA zCA [] [] [.mk nB nB []]), he, fun n => by rw [z8w (z3d hc he)]; exact er r.1 r.2 (z3d hc he) n⟩)
    have l1 := z35 (z1r q1).1 l0
    refine TP.bind (π' := Prod.fst) (mk' := mkS) (z5e l1 _) (fun _ r2 q2 => ?_) (fun r c p hc he => ⟨(bE r, .mk 5 m nB zA zCA [] [] [.mk nB nB []]), he, fun n => er r m (z3d hc he) n⟩)
    have l2 := z35 (z12 q2).1 l1
    refine TP.bind (π' := Prod.fst) (mk' := mkS) (ih.arm i r2 hi l2) (fun x r3 q3 => ?_) (fun r c p hc he => ⟨(r.1, .mk 5 m nB zA zCA [] [] [r.2]), he, fun n => .inl (by
     rw [z63 (by simp)]
     show (AL n r.1 _).bind _ = _
     rw [AL_e (z3d hc he)]
     show (z04 r.1 _).bind _ = _
     rw [z8w (z3d hc he)]; rfl)⟩)
    have z3 := sf.arm _ _ _ _ q3
    have l3 := z35 z3.1 l2
    refine TP.eq (y := fun n => AL n (PS L r3 0 i) [cArm x] >>= fun w => z04 w.1 (ByteArray.mk #[125]) >>= fun v8 => some (v8, (z02.mk 5 m nB zA zCA [] [] w.2))) ?_ (fun n => by rw [z63 (by simp)]; rfl)
    refine TP.bind (π' := Prod.fst) (mk' := mkS) (ih.arms i r3 [cArm x] hi l3 (by simp; omega)) (fun l r4 q4 => ?_) (fun r c p hc he => ⟨(r.1, .mk 5 m nB zA zCA [] [] r.2), he, fun n => .inl (by rw [z8w (z3d hc he)]; rfl)⟩)
    have l4 := z35 (sf.arms _ _ _ _ q4) l3
    refine TP.bind (π' := Prod.fst) (mk' := mkS) (z5e l4 _) (fun _ r5 q5 => TP.pure (fun n => ?_)) (fun r c p hc he => ⟨(r, .mk 5 m nB zA zCA [] [] ([cArm x] ++ cA l)), he, fun n => .inl rfl⟩)
    simp only [mkS, cS, cZ, cZC, cL, zs8, List.singleton_append]
   | false =>
   simp only [Bool.false_eq_true, if_false]
   cases h5 : z30 (ByteArray.mk #[97, 115, 115, 101, 114, 116]) ts with
   | true =>
    have l0 : ts.tail.length ≤ 2000 := by have := z2u h5; omega
    simp only [if_true]
    refine TP.mono (H := 1) ?_ (by omega)
    refine TP.up (H := 0) (x := fun n => z47 (PS L ts.tail 0 i) >>= fun v => some (v.1, v.2, true)) rfl (fun n => by simp only [z0h, z6h hl, h1, h2, h3, h4, h5, Option.bind_eq_bind, Option.bind_some, if_true, Bool.false_eq_true, if_false]) ?_
    exact zf0 (zr2 l0)
   | false =>
   simp only [Bool.false_eq_true, if_false]
   cases h6 : z30 (ByteArray.mk #[105, 110, 112, 117, 116]) ts with
   | true =>
    have l0 : ts.tail.length ≤ 2000 := by have := z2u h6; omega
    simp only [if_true]
    refine TP.mono (H := 1) ?_ (by omega)
    refine TP.up (H := 0) (x := fun n => z4i (PS L ts.tail 0 i) >>= fun v => some (v.1, v.2, true)) rfl (fun n => by simp only [z0h, z6h hl, h1, h2, h3, h4, h5, h6, Option.bind_eq_bind, Option.bind_some, if_true, Bool.false_eq_true, if_false]) ?_
    exact zf0 (zu7 l0)
   | false =>
   simp only [Bool.false_eq_true, if_false]
   cases h7 : sOf 1 ts with
   | true =>
    simp only [if_true]
    refine TP.mono (H := 1) ?_ (by omega)
    refine TP.up (H := 0) (x := fun n => z48 (PS L ts 0 i) >>= fun v => some (v.1, v.2, true)) rfl (fun n => by simp only [z0h, z6h hl, of_P, h1, h2, h3, h4, h5, h6, h7, Option.bind_eq_bind, Option.bind_some, if_true, Bool.false_eq_true, if_false]) ?_
    exact zf0 (zr3 hl)
   | false =>
    simp only [Bool.false_eq_true, if_false]
    intro n
    cases n with
    | zero => exact .inr ⟨rfl, by omega⟩
    | succ n =>
     refine .inl ?_
     simp only [z0h, z6h hl, of_P, h1, h2, h3, h4, h5, h6, h7, Option.bind_eq_bind, Option.bind_some, Bool.false_eq_true, if_false]
     rfl
  ·-- an arm
   simp only [sArm]
   refine TP.mono (H := 2 * f + 7) ?_ (by omega)
   refine TP.up (H := 2 * f + 6) (x := fun n => z09 (PS L ts 0 i) >>= fun v1 => z04 v1.1 (ByteArray.mk #[40]) >>= fun v2 => z09 v2 >>= fun v3 => z04 v3.1 (ByteArray.mk #[41]) >>= fun v4 => z0d n v4 >>= fun v5 => some (v5.1, (z0r.mk v1.2 v3.2 v5.2))) rfl (fun n => rfl) ?_
   have er : ∀ (a : z00) (s t : ByteArray), a.f_e ≠ 0 → ∀ n, Sn n (2 * f + 6) (z0d n a >>= fun v5 => some (v5.1, (z0r.mk s t v5.2))) (bE a, .mk s t []) := fun a s t h n => ((zgo h n).mono (by omega)).bind (f := fun v5 => some (v5.1, (z0r.mk s t v5.2))) (.inl rfl)
   refine TP.bind (π' := Prod.fst) (mk' := fun v a => (a, cArm v)) (z84 hl) (fun t r1 q1 => ?_) (fun r c p hc he => ⟨(bE r.1, .mk r.2 nB []), he, fun n => by
    have h := z3d hc he
    simp only [z8w h, zfy h, Option.bind_eq_bind, Option.bind_some]
    exact er r.1 r.2 nB h n⟩)
   have l1 := z35 (z1r q1).1 hl
   refine TP.bind (π' := Prod.fst) (mk' := fun v a => (a, cArm v)) (z5e l1 _) (fun _ r2 q2 => ?_) (fun r c p hc he => ⟨(bE r, .mk t nB []), he, fun n => by
    have h : r.f_e ≠ 0 := z3d hc he
    simp only [z8w h, zfy h, Option.bind_eq_bind, Option.bind_some]
    exact er r t nB h n⟩)
   have l2 := z35 (z12 q2).1 l1
   refine TP.bind (π' := Prod.fst) (mk' := fun v a => (a, cArm v)) (z84 l2) (fun w r3 q3 => ?_) (fun r c p hc he => ⟨(bE r.1, .mk t r.2 []), he, fun n => by
    have h := z3d hc he
    simp only [z8w h, Option.bind_eq_bind, Option.bind_some]
    exact er r.1 t r.2 h n⟩)
   have l3 := z35 (z1r q3).1 l2
   refine TP.bind (π' := Prod.fst) (mk' := fun v a => (a, cArm v)) (z5e l3 _) (fun _ r4 q4 => ?_) (fun r c p hc he => ⟨(bE r, .mk t w []), he, fun n => er r t w (z3d hc he) n⟩)
   have l4 := z35 (z12 q4).1 l3
   refine TP.bind (π' := Prod.fst) (mk' := fun v a => (a, cArm v)) (ih.block i r4 hi l4) (fun b r5 q5 => TP.pure (fun n => rfl)) (fun r c p hc he => ⟨(r.1, .mk t w r.2), he, fun n => .inl rfl⟩)
  ·-- arms
   simp only [zak]
   refine TP.eq (y := fun n => if z30 (ByteArray.mk #[125]) ts then some (PS L ts 0 i, acc) else z0z n (PS L ts 0 i) >>= fun v => app 56 acc [v.2] >>= fun v2 => AL n v.1 v2) ?_ (fun n => zxm n acc)
   cases h1 : z30 (ByteArray.mk #[125]) ts with
   | true =>
    simp only [if_true]
    exact TP.pure (fun n => by simp [cA])
   | false =>
    simp only [Bool.false_eq_true, if_false]
    refine TP.mono (H := 2 * f + 6) ?_ (by omega)
    refine TP.bind (π' := Prod.fst) (mk' := fun v a => (a, acc ++ cA v)) (ih.arm i ts hi hl) (fun x r ho => ?_) (fun r c p hc he => ⟨(r.1, acc ++ [r.2]), he, fun n => .inl (by
     rw [z63 (by simp; omega)]
     exact AL_e (z3d hc he) n _)⟩)
    have q := sf.arm _ _ _ _ ho
    have ql := z35 q.1 hl
    refine TP.eq (y := fun n => AL n (PS L r 0 i) (acc ++ [cArm x])) ?_ (fun n => ?_)
    ·refine TP.map (g := fun l => x :: l) (ih.arms i r (acc ++ [cArm x]) hi ql (by simp; omega)) (fun v a => ?_)
     simp [zs8]
    ·show (app 56 acc [cArm x]).bind _ = _
     rw [z63 (by simp; omega)]; rfl
  ·-- a block
   simp only [z7g]
   cases h1 : (z30 (ByteArray.mk #[123]) ts && decide (i = 24)) with
   | true =>
    simp only [Bool.and_eq_true, decide_eq_true_eq] at h1
    simp only [if_true]
    obtain ⟨h1, h2⟩ := h1
    subst h2
    refine TP.mono (H := 1) ?_ (by omega)
    refine TP.up (H := 0) (x := fun n => some (⟨ts.map tokT, L, 6, sAt L ts, 0, 24⟩, [])) rfl (fun n => by
     simp only [z0d, zbu, h1, Option.bind_eq_bind, Option.bind_some, if_true, zey]
     rfl) ?_
    exact TP.err (fun n => rfl) (by decide) ⟨rfl, rfl⟩
   | false =>
    simp only [Bool.false_eq_true, if_false]
    have hj : (if z30 (ByteArray.mk #[123]) ts then some ((PS L ts 0 i).f_in == 24) else some false) = some false := by
     cases hs : z30 (ByteArray.mk #[123]) ts with
     | false => rfl
     | true =>
      rw [hs] at h1
      have h1 : decide (i = 24) = false := h1
      have : ((i : Int) == 24) = false := by simp at h1 ⊢; omega
      show some ((i : Int) == 24) = _
      rw [this]
    refine TP.mono (H := 2 * f + 8) ?_ (by omega)
    refine TP.up (H := 2 * f + 7) (x := fun n => z04 (PS L ts 0 i) (ByteArray.mk #[123]) >>= fun v3 => z0v n (z00.mk v3.f_l v3.f_end v3.f_e v3.f_at v3.f_deep (IntKind.i64.wrap (v3.f_in + 1))) >>= fun v4 => z04 (z00.mk v4.1.f_l v4.1.f_end v4.1.f_e v4.1.f_at v4.1.f_deep (IntKind.i64.wrap (v4.1.f_in - 1))) (ByteArray.mk #[125]) >>= fun v5 => some (v5, v4.2)) rfl (fun n => by
     simp only [z0d, zbu, Option.bind_eq_bind, Option.bind_some, hj, Bool.false_eq_true, if_false]) ?_
    refine TP.bind (π' := Prod.fst) (mk' := mkL) (z5e hl _) (fun _ r1 q1 => ?_) (fun r c p hc he => ⟨(bE r, []), he, fun n => by
     have h : r.f_e ≠ 0 := z3d hc he
     refine ((zjk (a := ⟨r.f_l, r.f_end, r.f_e, r.f_at, r.f_deep, IntKind.i64.wrap (r.f_in + 1)⟩) h n).mono (by omega)).bind (f := fun v4 : z00 × List z02 => z04 (z00.mk v4.1.f_l v4.1.f_end v4.1.f_e v4.1.f_at v4.1.f_deep (IntKind.i64.wrap (v4.1.f_in - 1))) (ByteArray.mk #[125]) >>= fun v5 => some (v5, v4.2)) (.inl ?_)
     show (z04 (bE r) (ByteArray.mk #[125])).bind _ = _
     rw [z8w (a := bE r) h]; rfl⟩)
    have l1 := z35 (z12 q1).1 hl
    have hi' : i + 1 ≤ 24 := by
     have hs : z30 (ByteArray.mk #[123]) ts = true := by
      unfold z5u at q1
      split at q1
      ·assumption
      ·cases q1
     rw [hs] at h1
     have h1 : decide (i = 24) = false := h1
     simp at h1; omega
    have w1 : IntKind.i64.wrap ((PS L r1 0 i).f_in + 1) = ((i + 1 : Nat) : Int) := by
     show IntKind.i64.wrap ((i : Int) + 1) = _
     rw [w64 (by omega) (by omega)]; omega
    have hsl : TP L 0 ((i + 1 : Nat) : Int) Prod.fst mkL (2 * f + 7) (fun n => z0v n (PS L r1 0 ((i + 1 : Nat) : Int))) (z61 L f (i + 1) r1) := TP.up (x := fun n => SL n (PS L r1 0 ((i + 1 : Nat) : Int)) []) rfl (fun n => rfl) (by
     have := ih.stmts (i + 1) r1 [] hi' l1 (by simpa using l1)
     simpa using this)
    refine TP.eq (y := fun n => z0v n (PS L r1 0 ((i + 1 : Nat) : Int)) >>= fun v4 => z04 (z00.mk v4.1.f_l v4.1.f_end v4.1.f_e v4.1.f_at v4.1.f_deep (IntKind.i64.wrap (v4.1.f_in - 1))) (ByteArray.mk #[125]) >>= fun v5 => some (v5, v4.2)) ?_ (fun n => by
     show z0v n ⟨r1.map tokT, L, 0, 0, 0, IntKind.i64.wrap ((PS L r1 0 i).f_in + 1)⟩ >>= _ = _
     rw [w1]; rfl)
    refine TP.bind (π' := Prod.fst) (mk' := mkL) hsl (fun b r2 q2 => ?_) (fun r c p hc he => ⟨(⟨r.1.f_l, r.1.f_end, r.1.f_e, r.1.f_at, r.1.f_deep, IntKind.i64.wrap (r.1.f_in - 1)⟩, r.2), he, fun n => .inl (by
     rw [z8w (a := ⟨r.1.f_l, r.1.f_end, r.1.f_e, r.1.f_at, r.1.f_deep, IntKind.i64.wrap (r.1.f_in - 1)⟩) (z3d hc he)]; rfl)⟩)
    have l2 := z35 (sf.stmts _ _ _ _ q2) l1
    have w2 : IntKind.i64.wrap ((PS L r2 0 ((i + 1 : Nat) : Int)).f_in - 1) = (i : Int) := by
     show IntKind.i64.wrap (((i + 1 : Nat) : Int) - 1) = _
     rw [w64 (by omega) (by omega)]; omega
    refine TP.eq (y := fun n => z04 (PS L r2 0 i) (ByteArray.mk #[125]) >>= fun v5 => some (v5, cL b)) ?_ (fun n => by
     show z04 ⟨r2.map tokT, L, 0, 0, 0, IntKind.i64.wrap ((PS L r2 0 ((i + 1 : Nat) : Int)).f_in - 1)⟩ _ >>= _ = _
     rw [w2]; rfl)
    exact TP.bind (π' := Prod.fst) (mk' := mkL) (z5e l2 _) (fun _ r3 q3 => TP.pure (fun n => rfl)) (fun r c p hc he => ⟨(r, cL b), he, fun n => .inl rfl⟩)
end Go.Proofs.YtokjbpmjdcbogaaGreatDoor.Abs.Par
/- The program's reader reads channels, rules, processes and whole systems as parsing does. -/
namespace Go.Proofs.YtokjbpmjdcbogaaGreatDoor.Abs.Par
open Go Go.RowKit Wri
set_option linter.unusedVariables false
set_option linter.unusedSimpArgs false
/-! ### Many of a kind -/
def z7s {α : Type} (more : List Tok → Option (Rs α)) : Nat → List Tok → Rs (List α)
 | 0, _ => .out
 | f + 1, ts => match more ts with
  | none => .ok [] ts
  | some o => o.bind fun v r => (z7s more f r).bind fun l r' => .ok (v :: l) r'
structure More {α : Type} (more : List Tok → Option (Rs α)) : Prop where
 suf : ∀ ts v r, more ts = some (.ok v r) → r <:+ ts ∧ r.length < ts.length
 ne : ∀ ts, more ts ≠ some .out
theorem z95 {α : Type} {more : List Tok → Option (Rs α)} (m : More more) : ∀ f ts v r, z7s more f ts = .ok v r → r <:+ ts := by
 intro f
 induction f with
 | zero => intro ts v r h; cases h
 | succ f ih =>
  intro ts v r h
  simp only [z7s] at h
  split at h
  ·injection h with _ h; subst h; exact List.suffix_refl _
  ·rename_i o ho
   obtain ⟨s, r1, h1, h0⟩ := bind_ok h
   obtain ⟨l, r2, h2, h3⟩ := bind_ok h0
   injection h3 with _ h3; subst h3; subst h1
   exact (ih _ _ _ h2).trans (m.suf _ _ _ ho).1
theorem zdl {α : Type} {more : List Tok → Option (Rs α)} (m : More more) : ∀ f ts, ts.length + 1 ≤ f → z7s more f ts ≠ .out := by
 intro f
 induction f with
 | zero => intro ts h; omega
 | succ f ih =>
  intro ts hf h
  simp only [z7s] at h
  split at h
  ·cases h
  ·rename_i o ho
   rcases z0w h with h0 | ⟨s, r1, h1, h0⟩
   ·subst h0; exact m.ne _ ho
   ·subst h1
    have := (m.suf _ _ _ ho).2
    rcases z0w h0 with h2 | ⟨l, r2, h2, h3⟩
    ·exact ih _ (by omega) h2
    ·cases h3
abbrev T7 (β : Type) := List z08 × Int × Int × Int × Int × Int × List β
def tp7 {β : Type} (a : z00) (l : List β) : T7 β := (a.f_l, a.f_end, a.f_e, a.f_at, a.f_deep, a.f_in, l)
noncomputable def LF {β O : Type} (body : T7 β → Option (Sum (T7 β) (Sum O (T7 β)))) (a : z00) (l : List β) : Option (z00 × List β) :=
 iter body (tp7 a l) >>= Sum.elim (fun _ => none) (fun j1 => some (⟨j1.1, j1.2.1, j1.2.2.1, j1.2.2.2.1, j1.2.2.2.2.1, j1.2.2.2.2.2.1⟩, j1.2.2.2.2.2.2))
section
variable {β O : Type} {body : T7 β → Option (Sum (T7 β) (Sum O (T7 β)))} {a : z00} {l : List β}
theorem zdu (h : body (tp7 a l) = some (.inr (.inr (tp7 a l)))) : LF body a l = some (a, l) := by unfold LF; rw [z5v h]; rfl
theorem zu8 {x : Option (z00 × List β)} (h : body (tp7 a l) = x >>= fun v => some (.inl (tp7 v.1 v.2))) : LF body a l = x >>= fun v => LF body v.1 v.2 := by
 unfold LF
 rw [z9v, h]
 simp only [Option.bind_eq_bind, Option.bind_assoc]
 congr 1
theorem zl0 {ρ : Type} (k : z00 × List β → Option ρ) : iter body (tp7 a l) >>= Sum.elim (fun _ => none) (fun j1 => k (⟨j1.1, j1.2.1, j1.2.2.1, j1.2.2.2.1, j1.2.2.2.2.1, j1.2.2.2.2.2.1⟩, j1.2.2.2.2.2.2)) = LF body a l >>= k := by
 unfold LF
 simp only [Option.bind_eq_bind, Option.bind_assoc]
 congr 1; funext o
 cases o <;> rfl
end
theorem zfz {β γ O : Type} {L d i : Int} {body : T7 β → Option (Sum (T7 β) (Sum O (T7 β)))} {more : List Tok → Option (Rs γ)} {cv : γ → β} (m : More more)
  (h0 : ∀ ts l, ts.length ≤ 2000 → more ts = none → body (tp7 (PS L ts d i) l) = some (.inr (.inr (tp7 (PS L ts d i) l))))
  (h1 : ∀ ts o, ts.length ≤ 2000 → more ts = some o → ∃ x, TP L d i Prod.fst (fun v a => (a, cv v)) 0 (fun _ => x) o ∧ ∀ l : List β, l.length ≤ 2000 → body (tp7 (PS L ts d i) l) = x >>= fun v => some (.inl (tp7 v.1 (l ++ [v.2]))))
  (h2 : ∀ a l, a.f_e ≠ 0 → body (tp7 a l) = some (.inr (.inr (tp7 a l)))) :
  ∀ f ts (l : List β), ts.length ≤ 2000 → l.length + ts.length ≤ 2000 → TP L d i Prod.fst (fun (v : List γ) a => (a, l ++ v.map cv)) 0 (fun _ => LF body (PS L ts d i) l) (z7s more f ts) := by
 intro f
 induction f with
 | zero => intro ts l _ _; exact zb3
 | succ f ih =>
  intro ts l ht hl
  simp only [z7s]
  cases hm : more ts with
  | none => exact TP.pure (fun n => by rw [zdu (h0 ts l ht hm)]; simp)
  | some o =>
   obtain ⟨x, hx, hb⟩ := h1 ts o ht hm
   refine TP.eq (y := fun _ => x >>= fun v => LF body v.1 (l ++ [v.2])) ?_ (fun n => by
    rw [zu8 (x := x >>= fun v => some (v.1, l ++ [v.2])) (by rw [hb l (by omega)]; simp only [Option.bind_eq_bind, Option.bind_assoc, Option.bind_some])]
    simp only [Option.bind_eq_bind, Option.bind_assoc, Option.bind_some])
   refine TP.bind (π' := Prod.fst) (mk' := fun (v : List γ) a => (a, l ++ v.map cv)) hx (fun v r ho => ?_) (fun r c p hc he => ⟨(r.1, l ++ [r.2]), he, fun n => .inl (zdu (h2 r.1 _ (z3d hc he)))⟩)
   subst ho
   have q := m.suf _ _ _ hm
   refine TP.map (g := fun w => v :: w) (ih r (l ++ [cv v]) (z35 q.1 ht) (by simp; omega)) (fun w a => by simp)
/-! ### What channels, rules, processes and systems are -/
section
variable (L : Int)
def zp3 : List ByteArray := [(ByteArray.mk #[98, 108, 111, 99, 107]), (ByteArray.mk #[100, 114, 111, 112]), (ByteArray.mk #[108, 111, 115, 115, 121])]
def mTag (ts : List Tok) : Option (Rs ByteArray) := if z30 (ByteArray.mk #[44]) ts then some (z83 L ts.tail) else none
def zgp (ts : List Tok) : Rs z8z := (z83 L ts).bind fun n r1 => match z3s zp3 r1 with
 | none => .er 5 (sAt L r1)
 | some j => (sNum L r1.tail).bind fun z r2 => (z5u L (ByteArray.mk #[102, 114, 111, 109]) r2).bind fun _ r3 => (z83 L r3).bind fun a r4 => (z5u L (ByteArray.mk #[116, 111]) r4).bind fun _ r5 => (z83 L r5).bind fun b r6 =>
  (z5u L (ByteArray.mk #[123]) r6).bind fun _ r7 => (z83 L r7).bind fun t r8 => (z7s (mTag L) (r8.length + 1) r8).bind fun l r9 => (z5u L (ByteArray.mk #[125]) r9).bind fun _ r10 => (z5u L (ByteArray.mk #[59]) r10).bind fun _ r11 => .ok ⟨n, (j : Int), z, a, b, t :: l⟩ r11
def zjl (ts : List Tok) : Rs z9w := (sNum L ts).bind fun a r1 => (z83 L r1).bind fun t r2 => (sNum L r2).bind fun b r3 => (z5u L (ByteArray.mk #[59]) r3).bind fun _ r4 => .ok ⟨a, t, b⟩ r4
def zjm (ts : List Tok) : Option (Rs z9w) := if z30 (ByteArray.mk #[125]) ts then none else some (zjl L ts)
def zgq (ts : List Tok) : Rs z90 := (z83 L ts).bind fun n r1 => (z5u L (ByteArray.mk #[123]) r1).bind fun _ r2 => (z7s (zjm L) (r2.length + 1) r2).bind fun l r3 => (z5u L (ByteArray.mk #[125]) r3).bind fun _ r4 => .ok ⟨n, l⟩ r4
def mVar (ts : List Tok) : Option (Rs ByteArray) := if z30 (ByteArray.mk #[118, 97, 114]) ts then some ((z83 L ts.tail).bind fun n r1 => (z5u L (ByteArray.mk #[59]) r1).bind fun _ r2 => .ok n r2) else none
def zhw (ts : List Tok) : Rs (List z0k) := z61 L (3 * ts.length + 2) 0 ts
def zfe (ts : List Tok) : Rs z6p := (z83 L ts).bind fun n r1 => (z5u L (ByteArray.mk #[123]) r1).bind fun _ r2 => (z7s (mVar L) (r2.length + 1) r2).bind fun l r3 => (zhw L r3).bind fun b r4 => (z5u L (ByteArray.mk #[125]) r4).bind fun _ r5 => .ok ⟨n, l, b⟩ r5
def zgi (ts : List Tok) : Option (Rs z8z) := if z30 (ByteArray.mk #[99, 104, 97, 110]) ts then some (zgp L ts.tail) else none
def zgk (ts : List Tok) : Option (Rs z90) := if z30 (ByteArray.mk #[114, 117, 108, 101]) ts then some (zgq L ts.tail) else none
def zfd (ts : List Tok) : Option (Rs z6p) := if z30 (ByteArray.mk #[112, 114, 111, 99]) ts then some (zfe L ts.tail) else none
def sSys (ts : List Tok) : Rs z38 := (z7s (zgi L) (ts.length + 1) ts).bind fun c r1 => (z7s (zgk L) (r1.length + 1) r1).bind fun r r2 => (z7s (zfd L) (r2.length + 1) r2).bind fun p r3 => .ok ⟨c, r, p⟩ r3
/-- A whole text's words. -/
def sAll (ts : List Tok) : Rs z38 := (sSys L ts).bind fun v r => match r with | [] => .ok v [] | t :: _ => .er 5 (t.at_ : Int)
end
section
variable {L : Int}
theorem zhz : More (mTag L) where
 suf := fun ts v r h => by
  unfold mTag at h; split at h
  ·rename_i hs; injection h with h; exact z6q hs (z1r h).1
  ·cases h
 ne := fun ts h => by
  unfold mTag at h; split at h
  ·injection h with h; exact z62 h
  ·cases h
theorem zr4 {ts r : List Tok} {v : z8z} (h : zgp L ts = .ok v r) : r <:+ ts := by
 unfold zgp at h
 obtain ⟨_, r1, h1, h⟩ := bind_ok h
 split at h
 ·cases h
 rename_i j hj
 obtain ⟨_, r2, h2, h⟩ := bind_ok h
 obtain ⟨_, r3, h3, h⟩ := bind_ok h
 obtain ⟨_, r4, h4, h⟩ := bind_ok h
 obtain ⟨_, r5, h5, h⟩ := bind_ok h
 obtain ⟨_, r6, h6, h⟩ := bind_ok h
 obtain ⟨_, r7, h7, h⟩ := bind_ok h
 obtain ⟨_, r8, h8, h⟩ := bind_ok h
 obtain ⟨_, r9, h9, h⟩ := bind_ok h
 obtain ⟨_, r10, h10, h⟩ := bind_ok h
 obtain ⟨_, r11, h11, h⟩ := bind_ok h
 injection h with _ h; subst h
 exact (z12 h11).1.trans ((z12 h10).1.trans ((z95 zhz _ _ _ _ h9).trans ((z1r h8).1.trans ((z12 h7).1.trans ((z1r h6).1.trans ((z12 h5).1.trans ((z1r h4).1.trans ((z12 h3).1.trans ((z9b h2).1.trans ((List.tail_suffix r1).trans (z1r h1).1))))))))))
theorem zu9 {ts : List Tok} : zgp L ts ≠ .out := fun h => by
 unfold zgp at h
 rcases z0w h with h | ⟨_, _, _, h⟩
 ·exact z62 h
 split at h
 ·cases h
 rcases z0w h with h | ⟨_, _, _, h⟩
 ·exact zky h
 rcases z0w h with h | ⟨_, _, _, h⟩
 ·exact z44 h
 rcases z0w h with h | ⟨_, _, _, h⟩
 ·exact z62 h
 rcases z0w h with h | ⟨_, _, _, h⟩
 ·exact z44 h
 rcases z0w h with h | ⟨_, _, _, h⟩
 ·exact z62 h
 rcases z0w h with h | ⟨_, _, _, h⟩
 ·exact z44 h
 rcases z0w h with h | ⟨_, _, _, h⟩
 ·exact z62 h
 rcases z0w h with h | ⟨_, _, _, h⟩
 ·exact zdl zhz _ _ (Nat.le_refl _) h
 rcases z0w h with h | ⟨_, _, _, h⟩
 ·exact z44 h
 rcases z0w h with h | ⟨_, _, _, h⟩
 ·exact z44 h
 ·cases h
theorem zr5 {ts r : List Tok} {v : z9w} (h : zjl L ts = .ok v r) : r <:+ ts ∧ r.length < ts.length := by
 unfold zjl at h
 obtain ⟨_, r1, h1, h⟩ := bind_ok h
 obtain ⟨_, r2, h2, h⟩ := bind_ok h
 obtain ⟨_, r3, h3, h⟩ := bind_ok h
 obtain ⟨_, r4, h4, h⟩ := bind_ok h
 injection h with _ h; subst h
 exact zjj ((z12 h4).1.trans ((z9b h3).1.trans (z1r h2).1)) (z9b h1).1 (z9b h1).2
theorem zua {ts : List Tok} : zjl L ts ≠ .out := fun h => by
 unfold zjl at h
 rcases z0w h with h | ⟨_, _, _, h⟩
 ·exact zky h
 rcases z0w h with h | ⟨_, _, _, h⟩
 ·exact z62 h
 rcases z0w h with h | ⟨_, _, _, h⟩
 ·exact zky h
 rcases z0w h with h | ⟨_, _, _, h⟩
 ·exact z44 h
 ·cases h
theorem zf1 : More (zjm L) where
 suf := fun ts v r h => by
  unfold zjm at h; split at h
  ·cases h
  ·injection h with h; exact zr5 h
 ne := fun ts h => by
  unfold zjm at h; split at h
  ·cases h
  ·injection h with h; exact zua h
theorem zr6 {ts r : List Tok} {v : z90} (h : zgq L ts = .ok v r) : r <:+ ts := by
 unfold zgq at h
 obtain ⟨_, r1, h1, h⟩ := bind_ok h
 obtain ⟨_, r2, h2, h⟩ := bind_ok h
 obtain ⟨_, r3, h3, h⟩ := bind_ok h
 obtain ⟨_, r4, h4, h⟩ := bind_ok h
 injection h with _ h; subst h
 exact (z12 h4).1.trans ((z95 zf1 _ _ _ _ h3).trans ((z12 h2).1.trans (z1r h1).1))
theorem zub {ts : List Tok} : zgq L ts ≠ .out := fun h => by
 unfold zgq at h
 rcases z0w h with h | ⟨_, _, _, h⟩
 ·exact z62 h
 rcases z0w h with h | ⟨_, _, _, h⟩
 ·exact z44 h
 rcases z0w h with h | ⟨_, _, _, h⟩
 ·exact zdl zf1 _ _ (Nat.le_refl _) h
 rcases z0w h with h | ⟨_, _, _, h⟩
 ·exact z44 h
 ·cases h
theorem zfv : More (mVar L) where
 suf := fun ts v r h => by
  unfold mVar at h; split at h
  ·rename_i hs; injection h with h
   obtain ⟨_, r1, h1, h⟩ := bind_ok h
   obtain ⟨_, r2, h2, h⟩ := bind_ok h
   injection h with _ h; subst h
   exact z6q hs ((z12 h2).1.trans (z1r h1).1)
  ·cases h
 ne := fun ts h => by
  unfold mVar at h; split at h
  ·injection h with h
   rcases z0w h with h | ⟨_, _, _, h⟩
   ·exact z62 h
   rcases z0w h with h | ⟨_, _, _, h⟩
   ·exact z44 h
   ·cases h
  ·cases h
theorem zl1 {ts r : List Tok} {v : List z0k} (h : zhw L ts = .ok v r) : r <:+ ts := (sufS L _).stmts _ _ _ _ h
theorem zos {ts : List Tok} : zhw L ts ≠ .out := (fuS L _).stmts _ _ (Nat.le_refl _)
theorem zr7 {ts r : List Tok} {v : z6p} (h : zfe L ts = .ok v r) : r <:+ ts := by
 unfold zfe at h
 obtain ⟨_, r1, h1, h⟩ := bind_ok h
 obtain ⟨_, r2, h2, h⟩ := bind_ok h
 obtain ⟨_, r3, h3, h⟩ := bind_ok h
 obtain ⟨_, r4, h4, h⟩ := bind_ok h
 obtain ⟨_, r5, h5, h⟩ := bind_ok h
 injection h with _ h; subst h
 exact (z12 h5).1.trans ((zl1 h4).trans ((z95 zfv _ _ _ _ h3).trans ((z12 h2).1.trans (z1r h1).1)))
theorem zuc {ts : List Tok} : zfe L ts ≠ .out := fun h => by
 unfold zfe at h
 rcases z0w h with h | ⟨_, _, _, h⟩
 ·exact z62 h
 rcases z0w h with h | ⟨_, _, _, h⟩
 ·exact z44 h
 rcases z0w h with h | ⟨_, _, _, h⟩
 ·exact zdl zfv _ _ (Nat.le_refl _) h
 rcases z0w h with h | ⟨_, _, _, h⟩
 ·exact zos h
 rcases z0w h with h | ⟨_, _, _, h⟩
 ·exact z44 h
 ·cases h
theorem zgh : More (zgi L) where
 suf := fun ts v r h => by
  unfold zgi at h; split at h
  ·rename_i hs; injection h with h; exact z6q hs (zr4 h)
  ·cases h
 ne := fun ts h => by
  unfold zgi at h; split at h
  ·injection h with h; exact zu9 h
  ·cases h
theorem zgj : More (zgk L) where
 suf := fun ts v r h => by
  unfold zgk at h; split at h
  ·rename_i hs; injection h with h; exact z6q hs (zr6 h)
  ·cases h
 ne := fun ts h => by
  unfold zgk at h; split at h
  ·injection h with h; exact zub h
  ·cases h
theorem zjf : More (zfd L) where
 suf := fun ts v r h => by
  unfold zfd at h; split at h
  ·rename_i hs; injection h with h; exact z6q hs (zr7 h)
  ·cases h
 ne := fun ts h => by
  unfold zfd at h; split at h
  ·injection h with h; exact zuc h
  ·cases h
theorem zs9 {ts : List Tok} : sSys L ts ≠ .out := fun h => by
 unfold sSys at h
 rcases z0w h with h | ⟨_, _, _, h⟩
 ·exact zdl zgh _ _ (Nat.le_refl _) h
 rcases z0w h with h | ⟨_, _, _, h⟩
 ·exact zdl zgj _ _ (Nat.le_refl _) h
 rcases z0w h with h | ⟨_, _, _, h⟩
 ·exact zdl zjf _ _ (Nat.le_refl _) h
 ·cases h
end
/-! ### Errors -/
section
variable {a : z00} (h : a.f_e ≠ 0)
include h
theorem zr8 : z15 a [(ByteArray.mk #[98, 108, 111, 99, 107]), (ByteArray.mk #[100, 114, 111, 112]), (ByteArray.mk #[108, 111, 115, 115, 121])] = some (a, -1) := zoy h _ (by decide)
theorem zr9 : z4j a = some (a, []) := Sn.unf fun n => zjk h n
theorem zsa (l : List ByteArray) : z1d (tp7 a l) = some (.inr (.inr (tp7 a l))) := by
 unfold z1d
 show (z0a a _ >>= _) = _
 rw [zb2 h]; rfl
theorem zsb (l : List z39) : z2b (tp7 a l) = some (.inr (.inr (tp7 a l))) := by
 unfold z2b
 rw [if_neg (by simpa [tp7] using h)]; rfl
theorem zsc (l : List ByteArray) : z2c (tp7 a l) = some (.inr (.inr (tp7 a l))) := by
 unfold z2c
 show (z0a a _ >>= _) = _
 rw [zb2 h]; rfl
theorem zwb (l : List z27) : z49 (tp7 a l) = some (.inr (.inr (tp7 a l))) := by
 unfold z49
 show (z0a a _ >>= _) = _
 rw [zb2 h]; rfl
theorem zsd (l : List z2a) : z4a (tp7 a l) = some (.inr (.inr (tp7 a l))) := by
 unfold z4a
 show (z0a a _ >>= _) = _
 rw [zb2 h]; rfl
theorem zp4 (l : List z2d) : z3x (tp7 a l) = some (.inr (.inr (tp7 a l))) := by
 unfold z3x
 show (z0a a _ >>= _) = _
 rw [zb2 h]; rfl
theorem zwc (l : List ByteArray) : LF z1d a l = some (a, l) := zdu (zsa h l)
theorem zwd (l : List z39) : LF z2b a l = some (a, l) := zdu (zsb h l)
theorem zwe (l : List ByteArray) : LF z2c a l = some (a, l) := zdu (zsc h l)
end
theorem eQ {a : z00} (h : a.f_e ≠ 0) : (∀ w, z04 a w = some a) ∧ z09 a = some (a, ByteArray.mk #[]) ∧ z1a a = some (a, 0) ∧ (∀ c, z1h a c = some a) ∧ (∀ l, LF z1d a l = some (a, l)) ∧ (∀ l, LF z2b a l = some (a, l)) ∧ (∀ l, LF z2c a l = some (a, l)) ∧ z4j a = some (a, []) := ⟨z8w h, zfy h, zw3 h, zfx h, zwc h, zwd h, zwe h, zr9 h⟩
theorem z3i (x : ByteArray) : app 16 [] [x] = some [x] := rfl
theorem z64 (a : z00) : z00.mk a.f_l a.f_end a.f_e a.f_at a.f_deep a.f_in = a := rfl
/-! ### The program's -/
instance : Inhabited z39 := ⟨⟨0, nB, 0⟩⟩
instance : Inhabited z27 := ⟨⟨nB, 0, 0, nB, nB, []⟩⟩
instance : Inhabited z2a := ⟨⟨nB, []⟩⟩
instance : Inhabited z2d := ⟨⟨nB, [], []⟩⟩
theorem zud (a : z00) : z42 a = z09 a >>= fun v1 => z15 v1.1 [(ByteArray.mk #[98, 108, 111, 99, 107]), (ByteArray.mk #[100, 114, 111, 112]), (ByteArray.mk #[108, 111, 115, 115, 121])] >>= fun v2 =>
  if (decide (v2.2 < 0)) then (z1h v2.1 5 >>= fun v3 => some (v3, (z27.mk v1.2 v2.2 0 (ByteArray.mk #[]) (ByteArray.mk #[]) [])))
  else (z1a v2.1 >>= fun v4 => z04 v4.1 (ByteArray.mk #[102, 114, 111, 109]) >>= fun v5 => z09 v5 >>= fun v6 => z04 v6.1 (ByteArray.mk #[116, 111]) >>= fun v7 => z09 v7 >>= fun v8 => z04 v8.1 (ByteArray.mk #[123]) >>= fun v9 =>
   z09 v9 >>= fun v10 => app 16 [] [v10.2] >>= fun v11 => LF z1d v10.1 v11 >>= fun w => z04 w.1 (ByteArray.mk #[125]) >>= fun v15 => z04 v15 (ByteArray.mk #[59]) >>= fun v16 => some (v16, (z27.mk v1.2 v2.2 v4.2 v6.2 v8.2 w.2))) := by
 simp only [← zl0]; rfl
theorem zue (a : z00) : z4t a = z09 a >>= fun v1 => z04 v1.1 (ByteArray.mk #[123]) >>= fun v2 => LF z2b v2 [] >>= fun w => z04 w.1 (ByteArray.mk #[125]) >>= fun v9 => some (v9, (z2a.mk v1.2 w.2)) := by
 simp only [← zl0]; rfl
theorem zuf (a : z00) : z4v a = z09 a >>= fun v1 => z04 v1.1 (ByteArray.mk #[123]) >>= fun v2 => LF z2c v2 [] >>= fun w => z4j w.1 >>= fun v7 => z04 v7.1 (ByteArray.mk #[125]) >>= fun v8 => some (v8, (z2d.mk v1.2 w.2 v7.2)) := by
 simp only [← zl0]; rfl
abbrev mkCh : z8z → z00 → z00 × z27 := fun v a => (a, cCh v)
abbrev mkMo : z9w → z00 → z00 × z39 := fun v a => (a, cMo v)
abbrev mkRu : z90 → z00 → z00 × z2a := fun v a => (a, cRu v)
abbrev mkPr : z6p → z00 → z00 × z2d := fun v a => (a, cPr v)
section
variable {L i : Int}
theorem zwf {ts : List Tok} {t : ByteArray} (hl : ts.length + 1 ≤ 2000) : TP L 0 i Prod.fst (fun v a => (a, [t] ++ v.map id)) 0 (fun _ => LF z1d (PS L ts 0 i) [t]) (z7s (mTag L) (ts.length + 1) ts) := by
 refine zfz (cv := id) zhz (fun ts l ht hm => ?_) (fun ts o ht hm => ?_) (fun a l h => zsa h l) _ ts [t] (by omega) (by simp; omega)
 ·unfold mTag at hm
  cases hs : z30 (ByteArray.mk #[44]) ts with
  | true => rw [hs] at hm; cases hm
  | false =>
   unfold z1d
   show (z0a (PS L ts 0 i) _ >>= _) = _
   rw [z6h ht, hs]; rfl
 ·unfold mTag at hm
  cases hs : z30 (ByteArray.mk #[44]) ts with
  | false => rw [hs] at hm; cases hm
  | true =>
   rw [hs] at hm; injection hm with hm; subst hm
   have l0 : ts.tail.length ≤ 2000 := by have := z2u hs; omega
   refine ⟨z09 (PS L ts.tail 0 i), z84 l0, fun l hll => ?_⟩
   unfold z1d
   show (z0a (PS L ts 0 i) _ >>= _) = _
   rw [z6h ht, hs]
   simp only [Option.bind_eq_bind, Option.bind_some, if_true]
   congr 1; funext v
   show (app 16 l [v.2]).bind _ = _
   rw [z63 (by simp; omega)]; rfl
theorem zwg {ts : List Tok} {H : Nat} (hl : ts.length ≤ 2000) : TP L 0 i Prod.fst mkCh H (fun _ => z42 (PS L ts 0 i)) (zgp L ts) := by
 refine TP.eq (y := fun _ => _) ?_ (fun _ => zud _)
 unfold zgp
 refine TP.bind (π' := Prod.fst) (mk' := mkCh) (z84 hl) (fun m r1 h1 => ?_) (fun r c p hc he => z2z (by simp only [zr8 (a := r.1) (z3d hc he), zfx (a := r.1) (z3d hc he), Option.bind_eq_bind, Option.bind_some, neg1, if_true]; rfl) ⟨he.1, he.2⟩)
 have l1 := z35 (z1r h1).1 hl
 have hw := zgl (L := L) (d := 0) (i := i) l1 zp3 (by decide)
 cases hs : z3s zp3 r1 with
 | none =>
  rw [hs] at hw
  refine TP.err (r := ((⟨r1.map tokT, L, 5, sAt L r1, 0, i⟩ : z00), ⟨m, -1, 0, nB, nB, []⟩)) (fun n => ?_) (by decide) ⟨rfl, rfl⟩
  show (z15 (PS L r1 0 i) zp3).bind _ = _
  rw [hw]
  simp only [Option.bind_some, neg1, if_true, zey, Option.bind_eq_bind]
 | some j =>
  rw [hs] at hw
  have q1 : decide (((j : Nat) : Int) < 0) = false := by simp
  have l2 : r1.tail.length ≤ 2000 := by have := (z5a hs).1; omega
  refine TP.eq (y := fun _ => z1a (PS L r1.tail 0 i) >>= fun v4 => z04 v4.1 (ByteArray.mk #[102, 114, 111, 109]) >>= fun v5 => z09 v5 >>= fun v6 => z04 v6.1 (ByteArray.mk #[116, 111]) >>= fun v7 => z09 v7 >>= fun v8 => z04 v8.1 (ByteArray.mk #[123]) >>= fun v9 =>
   z09 v9 >>= fun v10 => app 16 [] [v10.2] >>= fun v11 => LF z1d v10.1 v11 >>= fun w => z04 w.1 (ByteArray.mk #[125]) >>= fun v15 => z04 v15 (ByteArray.mk #[59]) >>= fun v16 => some (v16, (z27.mk m (j : Int) v4.2 v6.2 v8.2 w.2))) ?_ (fun n => by
   show (z15 (PS L r1 0 i) zp3).bind _ = _
   rw [hw]
   simp only [Option.bind_some, q1, Bool.false_eq_true, if_false])
  refine TP.bind (π' := Prod.fst) (mk' := mkCh) (zqu l2) (fun z r2 h2 => ?_) (fun r c p hc he => z2z (by simp only [eQ (a := r.1) (z3d hc he), z3i, z64, Option.bind_eq_bind, Option.bind_some]; rfl) ⟨he.1, he.2⟩)
  have l2 := z35 (z9b h2).1 l2
  refine TP.bind (π' := Prod.fst) (mk' := mkCh) (z5e l2 _) (fun _ r3 h3 => ?_) (fun r c p hc he => z2z (by simp only [eQ (a := r) (z3d hc he), z3i, z64, Option.bind_eq_bind, Option.bind_some]; rfl) ⟨he.1, he.2⟩)
  have l3 := z35 (z12 h3).1 l2
  refine TP.bind (π' := Prod.fst) (mk' := mkCh) (z84 l3) (fun a r4 h4 => ?_) (fun r c p hc he => z2z (by simp only [eQ (a := r.1) (z3d hc he), z3i, z64, Option.bind_eq_bind, Option.bind_some]; rfl) ⟨he.1, he.2⟩)
  have l4 := z35 (z1r h4).1 l3
  refine TP.bind (π' := Prod.fst) (mk' := mkCh) (z5e l4 _) (fun _ r5 h5 => ?_) (fun r c p hc he => z2z (by simp only [eQ (a := r) (z3d hc he), z3i, z64, Option.bind_eq_bind, Option.bind_some]; rfl) ⟨he.1, he.2⟩)
  have l5 := z35 (z12 h5).1 l4
  refine TP.bind (π' := Prod.fst) (mk' := mkCh) (z84 l5) (fun b r6 h6 => ?_) (fun r c p hc he => z2z (by simp only [eQ (a := r.1) (z3d hc he), z3i, z64, Option.bind_eq_bind, Option.bind_some]; rfl) ⟨he.1, he.2⟩)
  have l6 := z35 (z1r h6).1 l5
  refine TP.bind (π' := Prod.fst) (mk' := mkCh) (z5e l6 _) (fun _ r7 h7 => ?_) (fun r c p hc he => z2z (by simp only [eQ (a := r) (z3d hc he), z3i, z64, Option.bind_eq_bind, Option.bind_some]; rfl) ⟨he.1, he.2⟩)
  have l7 := z35 (z12 h7).1 l6
  refine TP.bind (π' := Prod.fst) (mk' := mkCh) (z84 l7) (fun t r8 h8 => ?_) (fun r c p hc he => z2z (by simp only [eQ (a := r.1) (z3d hc he), z3i, z64, Option.bind_eq_bind, Option.bind_some]; rfl) ⟨he.1, he.2⟩)
  have z8 := (z1r h8).2
  have l8 := z35 (z1r h8).1 l7
  refine TP.eq (y := fun _ => LF z1d (PS L r8 0 i) [t] >>= fun w => z04 w.1 (ByteArray.mk #[125]) >>= fun v15 => z04 v15 (ByteArray.mk #[59]) >>= fun v16 => some (v16, (z27.mk m (j : Int) z a b w.2))) ?_ (fun n => rfl)
  refine TP.bind (π' := Prod.fst) (mk' := mkCh) ((zwf (t := t) (by omega)).mono (Nat.zero_le _)) (fun l r9 h9 => ?_) (fun r c p hc he => z2z (by simp only [eQ (a := r.1) (z3d hc he), z3i, z64, Option.bind_eq_bind, Option.bind_some]; rfl) ⟨he.1, he.2⟩)
  have l9 := z35 (z95 zhz _ _ _ _ h9) l8
  refine TP.bind (π' := Prod.fst) (mk' := mkCh) (z5e l9 _) (fun _ r10 h10 => ?_) (fun r c p hc he => z2z (by simp only [eQ (a := r) (z3d hc he), z3i, z64, Option.bind_eq_bind, Option.bind_some]; rfl) ⟨he.1, he.2⟩)
  have l10 := z35 (z12 h10).1 l9
  refine TP.bind (π' := Prod.fst) (mk' := mkCh) (z5e l10 _) (fun _ r11 h11 => TP.pure (fun n => ?_)) (fun r c p hc he => z2z (by simp only [eQ (a := r) (z3d hc he), z3i, z64, Option.bind_eq_bind, Option.bind_some]; rfl) ⟨he.1, he.2⟩)
  simp [mkCh, cCh]
theorem zwh {ts : List Tok} (hl : ts.length ≤ 2000) : TP L 0 i Prod.fst mkMo 0 (fun _ => z1a (PS L ts 0 i) >>= fun v4 => z09 v4.1 >>= fun v5 => z1a v5.1 >>= fun v6 => z04 v6.1 (ByteArray.mk #[59]) >>= fun v7 => some (v7, z39.mk v4.2 v5.2 v6.2)) (zjl L ts) := by
 unfold zjl
 refine TP.bind (π' := Prod.fst) (mk' := mkMo) (zqu hl) (fun a r1 h1 => ?_) (fun r c p hc he => z2z (by simp only [eQ (a := r.1) (z3d hc he), z3i, z64, Option.bind_eq_bind, Option.bind_some]; rfl) ⟨he.1, he.2⟩)
 have l1 := z35 (z9b h1).1 hl
 refine TP.bind (π' := Prod.fst) (mk' := mkMo) (z84 l1) (fun t r2 h2 => ?_) (fun r c p hc he => z2z (by simp only [eQ (a := r.1) (z3d hc he), z3i, z64, Option.bind_eq_bind, Option.bind_some]; rfl) ⟨he.1, he.2⟩)
 have l2 := z35 (z1r h2).1 l1
 refine TP.bind (π' := Prod.fst) (mk' := mkMo) (zqu l2) (fun b r3 h3 => ?_) (fun r c p hc he => z2z (by simp only [eQ (a := r.1) (z3d hc he), z3i, z64, Option.bind_eq_bind, Option.bind_some]; rfl) ⟨he.1, he.2⟩)
 have l3 := z35 (z9b h3).1 l2
 exact TP.bind (π' := Prod.fst) (mk' := mkMo) (z5e l3 _) (fun _ r4 h4 => TP.pure (fun n => rfl)) (fun r c p hc he => ⟨(r, ⟨a, t, b⟩), he, fun n => .inl rfl⟩)
theorem zug {ts : List Tok} (hl : ts.length ≤ 2000) : TP L 0 i Prod.fst (fun v a => (a, [] ++ v.map cMo)) 0 (fun _ => LF z2b (PS L ts 0 i) []) (z7s (zjm L) (ts.length + 1) ts) := by
 refine zfz (cv := cMo) zf1 (fun ts l ht hm => ?_) (fun ts o ht hm => ?_) (fun a l h => zsb h l) _ ts [] (by omega) (by simp; omega)
 ·unfold zjm at hm
  cases hs : z30 (ByteArray.mk #[125]) ts with
  | false => rw [hs] at hm; cases hm
  | true =>
   unfold z2b
   rw [if_pos (by rfl)]
   show ((z26 (PS L ts 0 i) (ByteArray.mk #[125]) >>= fun v5 => some (!v5)) >>= _) = _
   rw [zbu, hs]; rfl
 ·unfold zjm at hm
  cases hs : z30 (ByteArray.mk #[125]) ts with
  | true => rw [hs] at hm; cases hm
  | false =>
   rw [hs] at hm; injection hm with hm; subst hm
   refine ⟨_, zwh ht, fun l hll => ?_⟩
   unfold z2b
   rw [if_pos (by rfl)]
   show ((z26 (PS L ts 0 i) (ByteArray.mk #[125]) >>= fun v5 => some (!v5)) >>= _) = _
   rw [zbu, hs]
   simp only [Option.bind_eq_bind, Option.bind_some, Bool.not_false, if_true, Option.bind_assoc]
   congr 1; funext v4
   congr 1; funext v5
   congr 1; funext v6
   congr 1; funext v7
   show (app 32 l [_]).bind _ = _
   rw [z63 (by simp; omega)]; rfl
theorem zwi {ts : List Tok} {H : Nat} (hl : ts.length ≤ 2000) : TP L 0 i Prod.fst mkRu H (fun _ => z4t (PS L ts 0 i)) (zgq L ts) := by
 refine TP.eq (y := fun _ => _) ?_ (fun _ => zue _)
 unfold zgq
 refine TP.bind (π' := Prod.fst) (mk' := mkRu) (z84 hl) (fun m r1 h1 => ?_) (fun r c p hc he => z2z (by simp only [eQ (a := r.1) (z3d hc he), z3i, z64, Option.bind_eq_bind, Option.bind_some]; rfl) ⟨he.1, he.2⟩)
 have l1 := z35 (z1r h1).1 hl
 refine TP.bind (π' := Prod.fst) (mk' := mkRu) (z5e l1 _) (fun _ r2 h2 => ?_) (fun r c p hc he => z2z (by simp only [eQ (a := r) (z3d hc he), z3i, z64, Option.bind_eq_bind, Option.bind_some]; rfl) ⟨he.1, he.2⟩)
 have l2 := z35 (z12 h2).1 l1
 refine TP.bind (π' := Prod.fst) (mk' := mkRu) ((zug l2).mono (Nat.zero_le _)) (fun l r3 h3 => ?_) (fun r c p hc he => z2z (by simp only [eQ (a := r.1) (z3d hc he), z3i, z64, Option.bind_eq_bind, Option.bind_some]; rfl) ⟨he.1, he.2⟩)
 have l3 := z35 (z95 zf1 _ _ _ _ h3) l2
 refine TP.bind (π' := Prod.fst) (mk' := mkRu) (z5e l3 _) (fun _ r4 h4 => TP.pure (fun n => rfl)) (fun r c p hc he => z2z (by simp only [eQ (a := r) (z3d hc he), z3i, z64, Option.bind_eq_bind, Option.bind_some]; rfl) ⟨he.1, he.2⟩)
theorem zwj {ts : List Tok} (hl : ts.length ≤ 2000) : TP L 0 i Prod.fst (fun v a => (a, [] ++ v.map id)) 0 (fun _ => LF z2c (PS L ts 0 i) []) (z7s (mVar L) (ts.length + 1) ts) := by
 refine zfz (cv := id) zfv (fun ts l ht hm => ?_) (fun ts o ht hm => ?_) (fun a l h => zsc h l) _ ts [] (by omega) (by simp; omega)
 ·unfold mVar at hm
  cases hs : z30 (ByteArray.mk #[118, 97, 114]) ts with
  | true => rw [hs] at hm; cases hm
  | false =>
   unfold z2c
   show (z0a (PS L ts 0 i) _ >>= _) = _
   rw [z6h ht, hs]; rfl
 ·unfold mVar at hm
  cases hs : z30 (ByteArray.mk #[118, 97, 114]) ts with
  | false => rw [hs] at hm; cases hm
  | true =>
   rw [hs] at hm; injection hm with hm; subst hm
   have l0 : ts.tail.length ≤ 2000 := by have := z2u hs; omega
   refine ⟨z09 (PS L ts.tail 0 i) >>= fun v4 => z04 v4.1 (ByteArray.mk #[59]) >>= fun v6 => some (v6, v4.2), ?_, fun l hll => ?_⟩
   ·refine TP.bind (π' := Prod.fst) (mk' := fun v a => (a, id v)) (z84 l0) (fun m r1 h1 => ?_) (fun r c p hc he => z2z (by simp only [eQ (a := r.1) (z3d hc he), z3i, z64, Option.bind_eq_bind, Option.bind_some]) ⟨he.1, he.2⟩)
    exact TP.bind (π' := Prod.fst) (mk' := fun v a => (a, id v)) (z5e (z35 (z1r h1).1 l0) _) (fun _ r2 h2 => TP.pure (fun n => rfl)) (fun r c p hc he => ⟨(r, m), he, fun n => .inl rfl⟩)
   ·unfold z2c
    show (z0a (PS L ts 0 i) _ >>= _) = _
    rw [z6h ht, hs]
    simp only [Option.bind_eq_bind, Option.bind_some, if_true, Option.bind_assoc]
    congr 1; funext v
    show (app 16 l [v.2]).bind _ = _
    rw [z63 (by simp; omega)]; rfl
theorem zwk {ts : List Tok} {H : Nat} (hl : ts.length ≤ 2000) : TP L 0 0 Prod.fst mkL H (fun _ => z4j (PS L ts 0 0)) (zhw L ts) := by
 have h := (pt L (3 * ts.length + 2)).stmts 0 ts [] (by omega) hl (by simpa using hl)
 have h := TP.up (F := fun n => z0v n (PS L ts 0 0)) rfl (fun n => rfl) h
 have h := h.unf.mono (Nat.zero_le H)
 intro hne
 obtain ⟨r, g, s⟩ := h hne
 refine ⟨r, ?_, s⟩
 unfold zhw
 simpa using g
theorem zwl {ts : List Tok} {H : Nat} (hl : ts.length ≤ 2000) : TP L 0 0 Prod.fst mkPr H (fun _ => z4v (PS L ts 0 0)) (zfe L ts) := by
 refine TP.eq (y := fun _ => _) ?_ (fun _ => zuf _)
 unfold zfe
 refine TP.bind (π' := Prod.fst) (mk' := mkPr) (z84 hl) (fun m r1 h1 => ?_) (fun r c p hc he => z2z (by simp only [eQ (a := r.1) (z3d hc he), z3i, z64, Option.bind_eq_bind, Option.bind_some]; rfl) ⟨he.1, he.2⟩)
 have l1 := z35 (z1r h1).1 hl
 refine TP.bind (π' := Prod.fst) (mk' := mkPr) (z5e l1 _) (fun _ r2 h2 => ?_) (fun r c p hc he => z2z (by simp only [eQ (a := r) (z3d hc he), z3i, z64, Option.bind_eq_bind, Option.bind_some]; rfl) ⟨he.1, he.2⟩)
 have l2 := z35 (z12 h2).1 l1
 refine TP.bind (π' := Prod.fst) (mk' := mkPr) ((zwj l2).mono (Nat.zero_le _)) (fun l r3 h3 => ?_) (fun r c p hc he => z2z (by simp only [eQ (a := r.1) (z3d hc he), z3i, z64, Option.bind_eq_bind, Option.bind_some]; rfl) ⟨he.1, he.2⟩)
 have l3 := z35 (z95 zfv _ _ _ _ h3) l2
 refine TP.bind (π' := Prod.fst) (mk' := mkPr) (zwk l3) (fun b r4 h4 => ?_) (fun r c p hc he => z2z (by simp only [eQ (a := r.1) (z3d hc he), z3i, z64, Option.bind_eq_bind, Option.bind_some]; rfl) ⟨he.1, he.2⟩)
 have l4 := z35 (zl1 h4) l3
 refine TP.bind (π' := Prod.fst) (mk' := mkPr) (z5e l4 _) (fun _ r5 h5 => TP.pure (fun n => ?_)) (fun r c p hc he => z2z (by simp only [eQ (a := r) (z3d hc he), z3i, z64, Option.bind_eq_bind, Option.bind_some]; rfl) ⟨he.1, he.2⟩)
 simp [mkPr, cPr]
theorem zuh {ts : List Tok} (hl : ts.length ≤ 2000) : TP L 0 0 Prod.fst (fun v a => (a, [] ++ v.map cCh)) 0 (fun _ => LF z49 (PS L ts 0 0) []) (z7s (zgi L) (ts.length + 1) ts) := by
 refine zfz (cv := cCh) zgh (fun ts l ht hm => ?_) (fun ts o ht hm => ?_) (fun a l h => zwb h l) _ ts [] (by omega) (by simp; omega)
 ·unfold zgi at hm
  cases hs : z30 (ByteArray.mk #[99, 104, 97, 110]) ts with
  | true => rw [hs] at hm; cases hm
  | false =>
   unfold z49
   show (z0a (PS L ts 0 0) _ >>= _) = _
   rw [z6h ht, hs]; rfl
 ·unfold zgi at hm
  cases hs : z30 (ByteArray.mk #[99, 104, 97, 110]) ts with
  | false => rw [hs] at hm; cases hm
  | true =>
   rw [hs] at hm; injection hm with hm; subst hm
   have l0 : ts.tail.length ≤ 2000 := by have := z2u hs; omega
   refine ⟨z42 (PS L ts.tail 0 0), zwg l0, fun l hll => ?_⟩
   unfold z49
   show (z0a (PS L ts 0 0) _ >>= _) = _
   rw [z6h ht, hs]
   simp only [Option.bind_eq_bind, Option.bind_some, if_true]
   congr 1; funext v
   show (app 88 l [v.2]).bind _ = _
   rw [z63 (by simp; omega)]; rfl
theorem zui {ts : List Tok} (hl : ts.length ≤ 2000) : TP L 0 0 Prod.fst (fun v a => (a, [] ++ v.map cRu)) 0 (fun _ => LF z4a (PS L ts 0 0) []) (z7s (zgk L) (ts.length + 1) ts) := by
 refine zfz (cv := cRu) zgj (fun ts l ht hm => ?_) (fun ts o ht hm => ?_) (fun a l h => zsd h l) _ ts [] (by omega) (by simp; omega)
 ·unfold zgk at hm
  cases hs : z30 (ByteArray.mk #[114, 117, 108, 101]) ts with
  | true => rw [hs] at hm; cases hm
  | false =>
   unfold z4a
   show (z0a (PS L ts 0 0) _ >>= _) = _
   rw [z6h ht, hs]; rfl
 ·unfold zgk at hm
  cases hs : z30 (ByteArray.mk #[114, 117, 108, 101]) ts with
  | false => rw [hs] at hm; cases hm
  | true =>
   rw [hs] at hm; injection hm with hm; subst hm
   have l0 : ts.tail.length ≤ 2000 := by have := z2u hs; omega
   refine ⟨z4t (PS L ts.tail 0 0), zwi l0, fun l hll => ?_⟩
   unfold z4a
   show (z0a (PS L ts 0 0) _ >>= _) = _
   rw [z6h ht, hs]
   simp only [Option.bind_eq_bind, Option.bind_some, if_true]
   congr 1; funext v
   show (app 40 l [v.2]).bind _ = _
   rw [z63 (by simp; omega)]; rfl
theorem zuj {ts : List Tok} (hl : ts.length ≤ 2000) : TP L 0 0 Prod.fst (fun v a => (a, [] ++ v.map cPr)) 0 (fun _ => LF z3x (PS L ts 0 0) []) (z7s (zfd L) (ts.length + 1) ts) := by
 refine zfz (cv := cPr) zjf (fun ts l ht hm => ?_) (fun ts o ht hm => ?_) (fun a l h => zp4 h l) _ ts [] (by omega) (by simp; omega)
 ·unfold zfd at hm
  cases hs : z30 (ByteArray.mk #[112, 114, 111, 99]) ts with
  | true => rw [hs] at hm; cases hm
  | false =>
   unfold z3x
   show (z0a (PS L ts 0 0) _ >>= _) = _
   rw [z6h ht, hs]; rfl
 ·unfold zfd at hm
  cases hs : z30 (ByteArray.mk #[112, 114, 111, 99]) ts with
  | false => rw [hs] at hm; cases hm
  | true =>
   rw [hs] at hm; injection hm with hm; subst hm
   have l0 : ts.tail.length ≤ 2000 := by have := z2u hs; omega
   refine ⟨z4v (PS L ts.tail 0 0), zwl l0, fun l hll => ?_⟩
   unfold z3x
   show (z0a (PS L ts 0 0) _ >>= _) = _
   rw [z6h ht, hs]
   simp only [Option.bind_eq_bind, Option.bind_some, if_true]
   congr 1; funext v
   show (app 64 l [v.2]).bind _ = _
   rw [z63 (by simp; omega)]; rfl

end
/-! ### Whole texts -/
noncomputable def pAll (a : z00) : Option (z00 × z1g) := LF z49 a [] >>= fun c => LF z4a c.1 [] >>= fun r => LF z3x r.1 [] >>= fun p => some (p.1, ⟨c.2, r.2, p.2⟩)
noncomputable def pFin (v : z00 × z1g) : Option (z1g × Int × Int) :=
 if (decide ((v.1.f_l.length : Int) > 0)) then (z1h v.1 5 >>= fun w => if (w.f_e != 0) then some ((z1g.mk [] [] []), w.f_at, w.f_e) else some (v.2, 0, 0))
 else (if (v.1.f_e != 0) then some ((z1g.mk [] [] []), v.1.f_at, v.1.f_e) else some (v.2, 0, 0))
theorem zl2 (s : ByteArray) : z5b s = zc3 s >>= fun v1 => if (v1.2.2 != 0) then some ((z1g.mk [] [] []), v1.2.1, v1.2.2) else pAll ⟨v1.1, (s.size : Int), 0, 0, 0, 0⟩ >>= pFin := by
 unfold pAll
 simp only [Option.bind_eq_bind, Option.bind_assoc, Option.bind_some]
 simp only [← Option.bind_eq_bind, ← zl0]
 rfl
section
variable {L : Int} {ts : List Tok}
theorem zxo (hl : ts.length ≤ 2000) : TP L 0 0 Prod.fst (fun v a => (a, cSys v)) 0 (fun _ => pAll (PS L ts 0 0)) (sSys L ts) := by
 unfold sSys pAll
 refine TP.bind (π' := Prod.fst) (mk' := fun v a => (a, cSys v)) (zuh hl) (fun c r1 h1 => ?_) (fun r c p hc he => ⟨(r.1, ⟨r.2, [], []⟩), he, fun n => .inl (by rw [zdu (zsd (z3d hc he) [])]; show (LF z3x r.1 [] >>= _) = _; rw [zdu (zp4 (z3d hc he) [])]; rfl)⟩)
 have l1 := z35 (z95 zgh _ _ _ _ h1) hl
 refine TP.bind (π' := Prod.fst) (mk' := fun v a => (a, cSys v)) (zui l1) (fun d r2 h2 => ?_) (fun r cc p hc he => ⟨(r.1, ⟨c.map cCh, r.2, []⟩), he, fun n => .inl (by rw [zdu (zp4 (z3d hc he) [])]; rfl)⟩)
 have l2 := z35 (z95 zgj _ _ _ _ h2) l1
 exact TP.bind (π' := Prod.fst) (mk' := fun v a => (a, cSys v)) (zuj l2) (fun d r2 h2 => TP.pure (fun n => rfl)) (fun r cc p hc he => ⟨(r.1, ⟨c.map cCh, d.map cRu, r.2⟩), he, fun n => .inl rfl⟩)
/-- What the program parses. -/
theorem zuk {s : ByteArray} {p : Int} (hs : zc3 s = some (ts.map tokT, p, 0)) (hl : ts.length ≤ 2000) : z5b s = some (match sAll (s.size : Int) ts with
  | .ok v _ => (cSys v, 0, 0)
  | .er c p => (⟨[], [], []⟩, p, c)
  | .out => (⟨[], [], []⟩, 0, 0)) := by
 rw [zl2, hs]
 show (pAll (PS (s.size : Int) ts 0 0) >>= pFin) = _
 obtain ⟨r, g, q⟩ := zxo (L := (s.size : Int)) hl zs9
 have q : pAll (PS (s.size : Int) ts 0 0) = some r := by
  rcases q 0 with q | ⟨_, q⟩
  ·exact q
  ·omega
 rw [q]
 show pFin r = _
 unfold sAll
 cases hv : sSys (s.size : Int) ts with
 | ok v rest =>
  rw [hv] at g
  have g : r = (PS (s.size : Int) rest 0 0, cSys v) := g
  subst g
  cases rest with
  | nil => rfl
  | cons t rest =>
   unfold pFin
   rw [if_pos (by simp [PS])]
   show (z1h (PS _ _ 0 0) 5 >>= _) = _
   rw [zey]; rfl
 | er c p =>
  rw [hv] at g
  obtain ⟨hc, he⟩ := g
  have h : r.1.f_e ≠ 0 := z3d hc he
  have h1 : (r.1.f_e != 0) = true := e1 h
  unfold pFin
  rw [zfx h]
  simp only [Option.bind_eq_bind, Option.bind_some, h1, if_true, ite_self]
  rw [he.1, he.2]; rfl
 | out => exact absurd hv zs9
end
end Go.Proofs.YtokjbpmjdcbogaaGreatDoor.Abs.Par
/- What is parsed is no larger than its words. -/
namespace Go.Proofs.YtokjbpmjdcbogaaGreatDoor.Abs.Par
open Go Go.RowKit Wri
set_option linter.unusedVariables false
set_option linter.unusedSimpArgs false
structure SzX (L : Int) (f : Nat) : Prop where
 fac : ∀ d ts v r, z5d L f d ts = .ok v r → szE (cE v) + r.length ≤ ts.length
 mul : ∀ d e ts v r, sMul L f d e ts = .ok v r → szE (cE v) + r.length ≤ szE (cE e) + ts.length
 term : ∀ d ts v r, z9o L f d ts = .ok v r → szE (cE v) + r.length ≤ ts.length
 add : ∀ d e ts v r, sAdd L f d e ts = .ok v r → szE (cE v) + r.length ≤ szE (cE e) + ts.length
 exp : ∀ d ts v r, z9p L f d ts = .ok v r → szE (cE v) + r.length ≤ ts.length
theorem szX (L : Int) : ∀ f, SzX L f := by
 intro f
 induction f with
 | zero => exact ⟨fun d ts v r h => by simp [z5d] at h, fun d e ts v r h => by simp [sMul] at h, fun d ts v r h => by simp [z9o] at h, fun d e ts v r h => by simp [sAdd] at h, fun d ts v r h => by simp [z9p] at h⟩
 | succ f ih =>
  refine ⟨fun d ts v r h => ?_, fun d e ts v r h => ?_, fun d ts v r h => ?_, fun d e ts v r h => ?_, fun d ts v r h => ?_⟩
  ·simp only [z5d] at h
   split at h
   ·rename_i hs
    have := z2u hs
    split at h
    ·cases h
    ·obtain ⟨w, s, h1, h2⟩ := bind_ok h
     injection h2 with h3 h2; subst h2; subst h3
     have := ih.fac _ _ _ _ h1
     simp only [cE, cEs, szE, szEs]; omega
   ·split at h
    ·rename_i hs
     have := z2u hs
     split at h
     ·cases h
     ·obtain ⟨w, s, h1, h2⟩ := bind_ok h
      obtain ⟨w', s', h3, h4⟩ := bind_ok h2
      injection h4 with h5 h4; subst h4; subst h5
      have := ih.exp _ _ _ _ h1
      have := (z12 h3).2
      omega
    ·split at h
     ·obtain ⟨w, s, h1, h2⟩ := bind_ok h
      injection h2 with h3 h2; subst h2; subst h3
      have := (z9b h1).2
      simp only [cE, cEs, szE, szEs]; omega
     ·obtain ⟨w, s, h1, h2⟩ := bind_ok h
      injection h2 with h3 h2; subst h2; subst h3
      have := (z1r h1).2
      simp only [cE, cEs, szE, szEs]; omega
  ·simp only [sMul] at h
   split at h
   ·injection h with h1 h; subst h; subst h1; omega
   ·rename_i j hj
    have := (z5a hj).1
    obtain ⟨w, s, h1, h2⟩ := bind_ok h
    have a1 := ih.fac _ _ _ _ h1
    have a2 := ih.mul _ _ _ _ _ h2
    simp only [cE, cEs, szE, szEs] at a2
    omega
  ·simp only [z9o] at h
   obtain ⟨w, s, h1, h2⟩ := bind_ok h
   have a1 := ih.fac _ _ _ _ h1
   have a2 := ih.mul _ _ _ _ _ h2
   omega
  ·simp only [sAdd] at h
   split at h
   ·injection h with h1 h; subst h; subst h1; omega
   ·rename_i j hj
    have := (z5a hj).1
    obtain ⟨w, s, h1, h2⟩ := bind_ok h
    have a1 := ih.term _ _ _ _ h1
    have a2 := ih.add _ _ _ _ _ h2
    simp only [cE, cEs, szE, szEs] at a2
    omega
  ·simp only [z9p] at h
   obtain ⟨w, s, h1, h2⟩ := bind_ok h
   have a1 := ih.term _ _ _ _ h1
   have a2 := ih.add _ _ _ _ _ h2
   omega
section
variable {L : Int} {ts r : List Tok}
theorem zra {v : z05} (h : eX L ts = .ok v r) : szE (cE v) + r.length ≤ ts.length := (szX L _).exp _ _ _ _ h
theorem zjn : szE (cE zE) = 1 := by simp [zE, cE, cEs, szE, szEs]
theorem zrb : szC (cC zC) = 3 := by simp [zC, cC, szC, zjn]
theorem zjo {v : z4f} (h : zez L ts = .ok v r) : szC (cC v) + r.length ≤ ts.length := by
 unfold zez at h
 obtain ⟨_, r1, h1, h⟩ := bind_ok h
 obtain ⟨l, r2, h2, h⟩ := bind_ok h
 split at h
 ·cases h
 rename_i j hj
 have := (z5a hj).1
 obtain ⟨x, r3, h3, h⟩ := bind_ok h
 obtain ⟨_, r4, h4, h⟩ := bind_ok h
 injection h with h0 h; subst h; subst h0
 have q1 := (z12 h1).2
 have q2 := zra h2
 have q3 := zra h3
 have q4 := (z12 h4).2
 simp only [cC, szC]; omega
theorem zul {v : z0k} (h : zgn L ts = .ok v r) : szS (cS v) + 10 * r.length ≤ 10 * ts.length := by
 unfold zgn at h
 obtain ⟨_, r1, h1, h⟩ := bind_ok h
 obtain ⟨_, r2, h2, h⟩ := bind_ok h
 obtain ⟨_, r3, h3, h⟩ := bind_ok h
 obtain ⟨_, r4, h4, h⟩ := bind_ok h
 obtain ⟨_, r5, h5, h⟩ := bind_ok h
 obtain ⟨_, r6, h6, h⟩ := bind_ok h
 obtain ⟨_, r7, h7, h⟩ := bind_ok h
 injection h with h0 h; subst h; subst h0
 have q1 := (z1r h1).2
 have q2 := (z12 h2).2
 have q3 := (z1r h3).2
 have q4 := (z12 h4).2
 have q5 := zra h5
 have q6 := (z12 h6).2
 have q7 := (z12 h7).2
 simp only [cS, szS, cL, szL, cA, szA, zrb]; omega
theorem zp5 {v : z0k} (h : za5 L ts = .ok v r) : szS (cS v) + 10 * r.length ≤ 10 * ts.length := by
 unfold za5 at h
 obtain ⟨_, r1, h1, h⟩ := bind_ok h
 obtain ⟨_, r2, h2, h⟩ := bind_ok h
 injection h with h0 h; subst h; subst h0
 have q1 := zjo h1
 have q3 := (z8f h1).2
 have q2 := (z12 h2).2
 simp only [cS, szS, cL, szL, cA, szA, zjn]; omega
theorem zrc {v : z0k} (h : zcy L ts = .ok v r) : szS (cS v) + 10 * r.length ≤ 10 * ts.length := by
 unfold zcy at h
 obtain ⟨_, r1, h1, h⟩ := bind_ok h
 obtain ⟨_, r2, h2, h⟩ := bind_ok h
 injection h with h0 h; subst h; subst h0
 have q1 := (z1r h1).2
 have q2 := (z12 h2).2
 simp only [cS, szS, cL, szL, cA, szA, zjn, zrb]; omega
theorem zp6 {v : z0k} (h : z9a L ts = .ok v r) : szS (cS v) + 10 * r.length ≤ 10 * ts.length := by
 unfold z9a at h
 obtain ⟨_, r1, h1, h⟩ := bind_ok h
 obtain ⟨_, r2, h2, h⟩ := bind_ok h
 obtain ⟨_, r3, h3, h⟩ := bind_ok h
 obtain ⟨_, r4, h4, h⟩ := bind_ok h
 injection h with h0 h; subst h; subst h0
 have q1 := (z1r h1).2
 have q2 := (z12 h2).2
 have q3 := zra h3
 have q4 := (z12 h4).2
 simp only [cS, szS, cL, szL, cA, szA, zrb]; omega
end
structure SzS (L : Int) (f : Nat) : Prop where
 stmts : ∀ i ts v r, z61 L f i ts = .ok v r → szL (cL v) + 10 * r.length ≤ 10 * ts.length + 1
 stmt : ∀ i ts v r, z88 L f i ts = some (.ok v r) → szS (cS v) + 10 * r.length ≤ 10 * ts.length
 arm : ∀ i ts v r, sArm L f i ts = .ok v r → 2 + szL (cL v.Body) + 10 * r.length ≤ 10 * ts.length
 arms : ∀ i ts v r, zak L f i ts = .ok v r → szA (cA v) + 10 * r.length ≤ 10 * ts.length + 1
 block : ∀ i ts v r, z7g L f i ts = .ok v r → szL (cL v) + 10 * r.length + 9 ≤ 10 * ts.length
theorem zp7 (x : z4q) (l : List z4q) : szA (cA (x :: l)) = 2 + szL (cL x.Body) + szA (cA l) := by cases x; rfl
theorem szS_ (L : Int) : ∀ f, SzS L f := by
 intro f
 induction f with
 | zero => exact ⟨fun i ts v r h => by simp [z61] at h, fun i ts v r h => by simp [z88] at h, fun i ts v r h => by simp [sArm] at h, fun i ts v r h => by simp [zak] at h, fun i ts v r h => by simp [z7g] at h⟩
 | succ f ih =>
  refine ⟨fun i ts v r h => ?_, fun i ts v r h => ?_, fun i ts v r h => ?_, fun i ts v r h => ?_, fun i ts v r h => ?_⟩
  ·simp only [z61] at h
   split at h
   ·injection h with h1 h; subst h; subst h1; simp only [cL, szL]; omega
   ·rename_i o ho
    obtain ⟨s, r1, h1, h0⟩ := bind_ok h
    obtain ⟨l, r2, h2, h3⟩ := bind_ok h0
    injection h3 with h4 h3; subst h3; subst h4; subst h1
    have a1 := ih.stmt _ _ _ _ ho
    have a2 := ih.stmts _ _ _ _ h2
    simp only [cL, szL]; omega
  ·simp only [z88] at h
   split at h
   ·rename_i hs
    have := z2u hs
    injection h with h
    obtain ⟨c, r1, h1, h⟩ := bind_ok h
    obtain ⟨b, r2, h2, h⟩ := bind_ok h
    have a1 := zjo h1
    have a2 := ih.block _ _ _ _ h2
    split at h
    ·rename_i he
     have := z2u he
     obtain ⟨l, r3, h3, h⟩ := bind_ok h
     injection h with h0 h; subst h; subst h0
     have a3 := ih.block _ _ _ _ h3
     simp only [cS, szS, cL, szL, cA, szA, zjn]; omega
    ·injection h with h0 h; subst h; subst h0
     simp only [cS, szS, cL, szL, cA, szA, zjn]; omega
   split at h
   ·rename_i hs
    have := z2u hs
    injection h with h
    obtain ⟨c, r1, h1, h⟩ := bind_ok h
    obtain ⟨b, r2, h2, h⟩ := bind_ok h
    have a1 := zjo h1
    have a2 := ih.block _ _ _ _ h2
    injection h with h0 h; subst h; subst h0
    simp only [cS, szS, cL, szL, cA, szA, zjn]; omega
   split at h
   ·rename_i hs
    have := z2u hs
    injection h with h
    have := zul h
    omega
   split at h
   ·rename_i hs
    have := z2u hs
    injection h with h
    obtain ⟨n, r1, h1, h⟩ := bind_ok h
    obtain ⟨_, r2, h2, h⟩ := bind_ok h
    obtain ⟨a, r3, h3, h⟩ := bind_ok h
    obtain ⟨l, r4, h4, h⟩ := bind_ok h
    obtain ⟨_, r5, h5, h⟩ := bind_ok h
    injection h with h0 h; subst h; subst h0
    have q1 := (z1r h1).2
    have q2 := (z12 h2).2
    have q3 := ih.arm _ _ _ _ h3
    have q4 := ih.arms _ _ _ _ h4
    have q5 := (z12 h5).2
    simp only [cS, szS, cL, szL, zp7, zjn, zrb]; omega
   split at h
   ·rename_i hs
    have := z2u hs
    injection h with h
    have := zp5 h
    omega
   split at h
   ·rename_i hs
    have := z2u hs
    injection h with h
    have := zrc h
    omega
   split at h
   ·injection h with h
    exact zp6 h
   ·cases h
  ·simp only [sArm] at h
   obtain ⟨n, r1, h1, h⟩ := bind_ok h
   obtain ⟨_, r2, h2, h⟩ := bind_ok h
   obtain ⟨a, r3, h3, h⟩ := bind_ok h
   obtain ⟨_, r4, h4, h⟩ := bind_ok h
   obtain ⟨b, r5, h5, h⟩ := bind_ok h
   injection h with h0 h; subst h; subst h0
   have q1 := (z1r h1).2
   have q2 := (z12 h2).2
   have q3 := (z1r h3).2
   have q4 := (z12 h4).2
   have q5 := ih.block _ _ _ _ h5
   simp only [z4q.Body]; omega
  ·simp only [zak] at h
   split at h
   ·injection h with h1 h; subst h; subst h1; simp only [cA, szA]; omega
   ·obtain ⟨s, r1, h1, h⟩ := bind_ok h
    obtain ⟨l, r2, h2, h⟩ := bind_ok h
    injection h with h0 h; subst h; subst h0
    have a1 := ih.arm _ _ _ _ h1
    have a2 := ih.arms _ _ _ _ h2
    rw [zp7]; omega
  ·simp only [z7g] at h
   split at h
   ·cases h
   ·obtain ⟨_, r1, h1, h⟩ := bind_ok h
    obtain ⟨b, r2, h2, h⟩ := bind_ok h
    obtain ⟨_, r3, h3, h⟩ := bind_ok h
    injection h with h0 h; subst h; subst h0
    have q1 := (z12 h1).2
    have q2 := ih.stmts _ _ _ _ h2
    have q3 := (z12 h3).2
    omega
theorem zjp {α β : Type} {more : List Tok → Option (Rs α)} {cv : α → β} {c : β → Nat} (h : ∀ ts v r, more ts = some (.ok v r) → c (cv v) + 10 * r.length ≤ 10 * ts.length) :
  ∀ f ts v r, z7s more f ts = .ok v r → sumN c (v.map cv) + 10 * r.length ≤ 10 * ts.length := by
 intro f
 induction f with
 | zero => intro ts v r h; cases h
 | succ f ih =>
  intro ts v r hh
  simp only [z7s] at hh
  split at hh
  ·injection hh with h1 hh; subst hh; subst h1; simp [sumN]
  ·rename_i o ho
   obtain ⟨s, r1, h1, h0⟩ := bind_ok hh
   obtain ⟨l, r2, h2, h3⟩ := bind_ok h0
   injection h3 with h4 h3; subst h3; subst h4; subst h1
   have a1 := h _ _ _ ho
   have a2 := ih _ _ _ h2
   simp only [List.map_cons, sumN]; omega
theorem zgr {α : Type} {more : List Tok → Option (Rs α)} (m : More more) : ∀ f ts v r, z7s more f ts = .ok v r → v.length + r.length ≤ ts.length := by
 intro f
 induction f with
 | zero => intro ts v r h; cases h
 | succ f ih =>
  intro ts v r hh
  simp only [z7s] at hh
  split at hh
  ·injection hh with h1 hh; subst hh; subst h1; simp
  ·rename_i o ho
   obtain ⟨s, r1, h1, h0⟩ := bind_ok hh
   obtain ⟨l, r2, h2, h3⟩ := bind_ok h0
   injection h3 with h4 h3; subst h3; subst h4; subst h1
   have a1 := (m.suf _ _ _ ho).2
   have a2 := ih _ _ _ h2
   simp only [List.length_cons]; omega
section
variable {L : Int} {ts r : List Tok}
theorem zum {v : z8z} (h : zgp L ts = .ok v r) : szCh (cCh v) + 10 * r.length ≤ 10 * ts.length := by
 unfold zgp at h
 obtain ⟨_, r1, h1, h⟩ := bind_ok h
 split at h
 ·cases h
 rename_i j hj
 have := (z5a hj).1
 obtain ⟨_, r2, h2, h⟩ := bind_ok h
 obtain ⟨_, r3, h3, h⟩ := bind_ok h
 obtain ⟨_, r4, h4, h⟩ := bind_ok h
 obtain ⟨_, r5, h5, h⟩ := bind_ok h
 obtain ⟨_, r6, h6, h⟩ := bind_ok h
 obtain ⟨_, r7, h7, h⟩ := bind_ok h
 obtain ⟨_, r8, h8, h⟩ := bind_ok h
 obtain ⟨_, r9, h9, h⟩ := bind_ok h
 obtain ⟨_, r10, h10, h⟩ := bind_ok h
 obtain ⟨_, r11, h11, h⟩ := bind_ok h
 injection h with h0 h; subst h; subst h0
 have q1 := (z1r h1).2
 have q2 := (z9b h2).2
 have q3 := (z12 h3).2
 have q4 := (z1r h4).2
 have q5 := (z12 h5).2
 have q6 := (z1r h6).2
 have q7 := (z12 h7).2
 have q8 := (z1r h8).2
 have q9 := zgr zhz _ _ _ _ h9
 have q10 := (z12 h10).2
 have q11 := (z12 h11).2
 simp only [cCh, szCh, List.length_cons]; omega
theorem zun {v : z90} (h : zgq L ts = .ok v r) : szR (cRu v) + 10 * r.length ≤ 10 * ts.length := by
 unfold zgq at h
 obtain ⟨_, r1, h1, h⟩ := bind_ok h
 obtain ⟨_, r2, h2, h⟩ := bind_ok h
 obtain ⟨_, r3, h3, h⟩ := bind_ok h
 obtain ⟨_, r4, h4, h⟩ := bind_ok h
 injection h with h0 h; subst h; subst h0
 have q1 := (z1r h1).2
 have q2 := (z12 h2).2
 have q3 := zgr zf1 _ _ _ _ h3
 have q4 := (z12 h4).2
 simp only [cRu, szR, List.length_map]; omega
theorem zuo {v : z6p} (h : zfe L ts = .ok v r) : szP (cPr v) + 10 * r.length ≤ 10 * ts.length := by
 unfold zfe at h
 obtain ⟨_, r1, h1, h⟩ := bind_ok h
 obtain ⟨_, r2, h2, h⟩ := bind_ok h
 obtain ⟨_, r3, h3, h⟩ := bind_ok h
 obtain ⟨_, r4, h4, h⟩ := bind_ok h
 obtain ⟨_, r5, h5, h⟩ := bind_ok h
 injection h with h0 h; subst h; subst h0
 have q1 := (z1r h1).2
 have q2 := (z12 h2).2
 have q3 := zgr zfv _ _ _ _ h3
 have q4 := (szS_ L _).stmts _ _ _ _ h4
 have q5 := (z12 h5).2
 simp only [cPr, szP]; omega
theorem zwm {v : z38} (h : sSys L ts = .ok v r) : zff (cSys v) ≤ 10 * ts.length := by
 unfold sSys at h
 obtain ⟨c, r1, h1, h⟩ := bind_ok h
 obtain ⟨d, r2, h2, h⟩ := bind_ok h
 obtain ⟨p, r3, h3, h⟩ := bind_ok h
 injection h with h0 h; subst h; subst h0
 have q1 := zjp (cv := cCh) (c := szCh) (fun ts v r hm => by
  unfold zgi at hm; split at hm
  ·rename_i hs; have := z2u hs; injection hm with hm; have := zum hm; omega
  ·cases hm) _ _ _ _ h1
 have q2 := zjp (cv := cRu) (c := szR) (fun ts v r hm => by
  unfold zgk at hm; split at hm
  ·rename_i hs; have := z2u hs; injection hm with hm; have := zun hm; omega
  ·cases hm) _ _ _ _ h2
 have q3 := zjp (cv := cPr) (c := szP) (fun ts v r hm => by
  unfold zfd at hm; split at hm
  ·rename_i hs; have := z2u hs; injection hm with hm; have := zuo hm; omega
  ·cases hm) _ _ _ _ h3
 simp only [cSys, zff]; omega
theorem zwn {v : z38} (h : sAll L ts = .ok v r) : zff (cSys v) ≤ 10 * ts.length := by
 unfold sAll at h
 obtain ⟨s, r1, h1, h⟩ := bind_ok h
 split at h
 ·injection h with h0 h; subst h0; exact zwm h1
 ·cases h
end
end Go.Proofs.YtokjbpmjdcbogaaGreatDoor.Abs.Par
/- The program and the statements' own reader parse every text alike; the law ParseReads. -/
namespace Go.Proofs.YtokjbpmjdcbogaaGreatDoor.Abs.Par
open Go Go.RowKit Wri
set_option linter.unusedVariables false
set_option linter.unusedSimpArgs false
def emp : z38 := ⟨[], [], []⟩
def fin (L : Int) (z : List Tok × Int × Int) : z38 × Int × Int := if z.2.2 != 0 then (emp, z.2.1, z.2.2) else match sAll L z.1 with
 | .ok v _ => (v, 0, 0)
 | .er c p => (emp, p, c)
 | .out => (emp, 0, 0)
/-- What a text says, or the error and its place. -/
def gAll (s : ByteArray) : z38 × Int × Int := fin (s.size : Int) (told s.size (lexS s.data.toList 0))
theorem zl3 (n : Nat) (z : List Tok × Option (Nat × Int)) : (told n z).1.length ≤ 2000 := by
 unfold told
 split
 ·simp
 ·split
  ·simp
  ·simp; omega
theorem zjh {s : ByteArray} (hs : s.size ≤ 4194304) : z5b s = some (cSys (gAll s).1, (gAll s).2.1, (gAll s).2.2) := by
 have hl := zxp s hs
 have h2 := zl3 s.size (lexS s.data.toList 0)
 unfold gAll fin
 unfold finT at hl
 generalize told s.size (lexS s.data.toList 0) = z at *
 obtain ⟨ts, p, e⟩ := z
 cases he : (e != 0) with
 | true =>
  rw [zl2, hl]
  simp only [Option.bind_eq_bind, Option.bind_some, he, if_true]
  rfl
 | false =>
  have he' : e = 0 := by simpa using he
  subst he'
  rw [zuk hl h2]
  simp only [he, Bool.false_eq_true, if_false]
  cases sAll (s.size : Int) ts <;> rfl
theorem zp8 (s : ByteArray) : zff (cSys (gAll s).1) ≤ 20000 := by
 have h2 := zl3 s.size (lexS s.data.toList 0)
 unfold gAll fin
 generalize told s.size (lexS s.data.toList 0) = z at *
 obtain ⟨ts, p, e⟩ := z
 have h0 : zff (cSys emp) ≤ 20000 := by simp [zff, cSys, emp, sumN]
 simp only
 split
 ·exact h0
 ·cases hv : sAll (s.size : Int) ts with
  | ok v r => have := zwn hv; simp only at h2 ⊢; omega
  | er c p => exact h0
  | out => exact h0
theorem zu4 (s : ByteArray) : z6e (gAll s).1 = some (cSys (gAll s).1) := zwo (by have := zp8 s; omega)
theorem zov (s : ByteArray) : za3 (cSys (gAll s).1) (cSys (gAll s).1) = some true := zrd (by have := zp8 s; omega)
/-! ### Two texts -/
def lexF : Nat → Bs → Nat → List Tok × Option (Nat × Int)
 | 0, _, _ => ([], none)
 | n + 1, l, p => match l with
  | [] => ([], none)
  | b :: r =>
   if isB b then lexF n r (p + 1)
   else match zaj (b :: r) with
    | .error e => ([], some (p, e))
    | .ok w => let z := lexF n (r.drop (w.len - 1)) (p + w.len); (⟨w.kind, (b :: r).take w.len, w.num, p⟩ :: z.1, z.2)
theorem zup : ∀ n l p, l.length ≤ n → lexS l p = lexF n l p := by
 intro n
 induction n with
 | zero =>
  intro l p h
  have : l = [] := List.eq_nil_of_length_eq_zero (by omega)
  subst this; unfold lexS; rfl
 | succ n ih =>
  intro l p h
  cases l with
  | nil => unfold lexS; rfl
  | cons b r =>
   simp only [List.length_cons] at h
   unfold lexS
   simp only [lexF]
   split
   ·exact ih _ _ (by omega)
   ·cases zaj (b :: r) with
    | error e => rfl
    | ok w => simp only [ih (r.drop (w.len - 1)) (p + w.len) (by simp; omega)]
def gF (s : ByteArray) : z38 × Int × Int := fin (s.size : Int) (told s.size (lexF s.size s.data.toList 0))
theorem zwp (s : ByteArray) : gAll s = gF s := by
 unfold gAll gF
 rw [zup s.size _ _ (Nat.le_of_eq (by cases s; simp [ByteArray.size]))]
abbrev T1 : ByteArray := ByteArray.mk #[112, 114, 111, 99, 32, 112, 32, 123, 32, 120, 32, 61, 32, 49, 32, 43, 32, 50, 32, 42, 32, 51, 32, 59, 32, 125]
abbrev T2 : ByteArray := ByteArray.mk #[112, 114, 111, 99, 32, 112]
def nE (n : Int) : z05 := ⟨1, n, nB, []⟩
theorem t1_g : gF T1 = (⟨[], [], [⟨ByteArray.mk #[112], [], [.mk 1 (ByteArray.mk #[120]) nB ⟨4, 0, nB, [nE 1, ⟨6, 0, nB, [nE 2, nE 3]⟩]⟩ zC [] [] []]⟩]⟩, 0, 0) := by kernel_rfl
theorem t2_g : gF T2 = (emp, 6, 5) := by kernel_rfl
theorem zqt : z8j = some true := by
 unfold z8j
 rw [zjh (s := T1) (by decide), zjh (s := T2) (by decide), zwp T1, zwp T2, t1_g, t2_g]
 rfl
/-! ### The law -/
end Go.Proofs.YtokjbpmjdcbogaaGreatDoor.Abs.Par
