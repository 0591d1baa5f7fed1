/- What parsing is, over words; the program's reader does it: signs, names, expressions. -/
import Derived.Test.YtokjbpmjdcbogaaGreatDoorRefQ
import Derived.Test.YtokjbpmjdcbogaaGreatDoorPlA
namespace Go.Proofs.YtokjbpmjdcbogaaGreatDoor.Abs.Par
open Go Go.RowKit Wri
set_option linter.unusedVariables false
set_option linter.unusedSimpArgs false
/-- What comes of reading: a value and the words left, an error and its place, or no fuel. -/
inductive Rs (α : Type) where
  | ok (v : α) (ts : List Tok)
  | er (c p : Int)
  | out
def Rs.bind {α β : Type} (x : Rs α) (k : α → List Tok → Rs β) : Rs β := match x with
  | .ok v ts => k v ts
  | .er c p => .er c p
  | .out => .out
section
variable (L : Int)
def sAt : List Tok → Int
  | [] => L
  | t :: _ => (t.at_ : Int)
def sSees (w : ByteArray) : List Tok → Bool
  | [] => false
  | t :: _ => decide (t.kind ≥ 3) && (t.text == w.data.toList)
def sOf (k : Int) : List Tok → Bool
  | [] => false
  | t :: _ => t.kind == k
def sMust (w : ByteArray) (ts : List Tok) : Rs Unit := if sSees w ts then .ok () ts.tail else .er 5 (sAt L ts)
def sName : List Tok → Rs ByteArray
  | [] => .er 5 L
  | t :: r => if t.kind == 1 then .ok ⟨t.text.toArray⟩ r else .er 5 (t.at_ : Int)
def sNum : List Tok → Rs Int
  | [] => .er 5 L
  | t :: r => if t.kind == 2 then .ok (t.num : Int) r else .er 5 (t.at_ : Int)
def sWhich : List ByteArray → List Tok → Option Nat
  | [], _ => none
  | w :: l, ts => if sSees w ts then some 0 else (sWhich l ts).map (· + 1)
def zE : r02_Expr := ⟨0, 0, ByteArray.mk #[], []⟩
def zC : r02_Cond := ⟨0, zE, zE⟩
def mulS : List ByteArray := [(ByteArray.mk #[42]), (ByteArray.mk #[47]), (ByteArray.mk #[37])]
def addS : List ByteArray := [(ByteArray.mk #[43]), (ByteArray.mk #[45])]
mutual
def sFactor : Nat → Nat → List Tok → Rs r02_Expr
  | 0, _, _ => .out
  | f + 1, d, ts =>
    if sSees (ByteArray.mk #[45]) ts then (if d = 24 then .er 6 (sAt L ts) else (sFactor f (d + 1) ts.tail).bind fun e r => .ok ⟨3, 0, ByteArray.mk #[], [e]⟩ r)
    else if sSees (ByteArray.mk #[40]) ts then (if d = 24 then .er 6 (sAt L ts) else (sExpr f (d + 1) ts.tail).bind fun e r => (sMust L (ByteArray.mk #[41]) r).bind fun _ r' => .ok e r')
    else if sOf 2 ts then (sNum L ts).bind fun n r => .ok ⟨1, n, ByteArray.mk #[], []⟩ r
    else (sName L ts).bind fun s r => .ok ⟨2, 0, s, []⟩ r
def sMul : Nat → Nat → r02_Expr → List Tok → Rs r02_Expr
  | 0, _, _, _ => .out
  | f + 1, d, e, ts => match sWhich mulS ts with
    | none => .ok e ts
    | some j => (sFactor f d ts.tail).bind fun k r => sMul f d ⟨6 + (j : Int), 0, ByteArray.mk #[], [e, k]⟩ r
def sTerm : Nat → Nat → List Tok → Rs r02_Expr
  | 0, _, _ => .out
  | f + 1, d, ts => (sFactor f d ts).bind fun e r => sMul f d e r
def sAdd : Nat → Nat → r02_Expr → List Tok → Rs r02_Expr
  | 0, _, _, _ => .out
  | f + 1, d, e, ts => match sWhich addS ts with
    | none => .ok e ts
    | some j => (sTerm f d ts.tail).bind fun k r => sAdd f d ⟨4 + (j : Int), 0, ByteArray.mk #[], [e, k]⟩ r
def sExpr : Nat → Nat → List Tok → Rs r02_Expr
  | 0, _, _ => .out
  | f + 1, d, ts => (sTerm f d ts).bind fun e r => sAdd f d e r
end
end
/-! ### The program's reader -/
def PS (L : Int) (ts : List Tok) (d i : Int) : parse_reader := ⟨ts.map tokT, L, 0, 0, d, i⟩
def EP (a : parse_reader) (c p : Int) : Prop := a.f_e = c ∧ a.f_at = p
section
variable {ρ ρ' β γ : Type} {L d i d' i' : Int} {π : ρ → parse_reader} {mk : β → parse_reader → ρ} {π' : ρ' → parse_reader} {mk' : γ → parse_reader → ρ'} {H : Nat}
def GP (L d i : Int) (π : ρ → parse_reader) (mk : β → parse_reader → ρ) : Rs β → ρ → Prop
  | .ok v ts, r => r = mk v (PS L ts d i)
  | .er c p, r => c ≠ 0 ∧ EP (π r) c p
  | .out, _ => False
def TP (L d i : Int) (π : ρ → parse_reader) (mk : β → parse_reader → ρ) (H : Nat) (x : Nat → Option ρ) (o : Rs β) : Prop := o ≠ .out → ∃ r, GP L d i π mk o r ∧ ∀ n, Sn n H (x n) r
theorem TP.bind {x : Nat → Option ρ} {o : Rs β} {k : Nat → ρ → Option ρ'} {k' : β → List Tok → Rs γ} (h : TP L d i π mk H x o) (hok : ∀ v ts, o = .ok v ts → TP L d' i' π' mk' H (fun n => k n (mk v (PS L ts d i))) (k' v ts))
    (her : ∀ r c p, c ≠ 0 → EP (π r) c p → ∃ r', EP (π' r') c p ∧ ∀ n, Sn n H (k n r) r') : TP L d' i' π' mk' H (fun n => x n >>= k n) (o.bind k') := by
  intro hne
  cases o with
  | ok v ts =>
    obtain ⟨r, hr, hs⟩ := h (by simp)
    have hr : r = mk v (PS L ts d i) := hr
    subst hr
    obtain ⟨r', g', s'⟩ := hok v ts rfl hne
    exact ⟨r', g', fun n => Sn.bind (f := k n) (hs n) (s' n)⟩
  | er c p =>
    obtain ⟨r, ⟨hc, he⟩, hs⟩ := h (by simp)
    obtain ⟨r', he', s'⟩ := her r c p hc he
    exact ⟨r', ⟨hc, he'⟩, fun n => Sn.bind (f := k n) (hs n) (s' n)⟩
  | out => exact absurd rfl hne
theorem TP.pure {x : Nat → Option ρ} {v : β} {ts : List Tok} (e : ∀ n, x n = some (mk v (PS L ts d i))) : TP L d i π mk H x (.ok v ts) := fun _ => ⟨_, rfl, fun n => .inl (e n)⟩
theorem TP.err {x : Nat → Option ρ} {r : ρ} {c p : Int} (e : ∀ n, x n = some r) (hc : c ≠ 0) (hp : EP (π r) c p) : TP L d i π mk H x (.er c p) := fun _ => ⟨r, ⟨hc, hp⟩, fun n => .inl (e n)⟩
theorem TP.up {F x : Nat → Option ρ} {o : Rs β} (h0 : F 0 = none) (h1 : ∀ n, F (n + 1) = x n) (h : TP L d i π mk H x o) : TP L d i π mk (H + 1) F o := by
  intro hne
  obtain ⟨r, g, s⟩ := h hne
  refine ⟨r, g, fun n => ?_⟩
  cases n with
  | zero => exact .inr ⟨h0, by omega⟩
  | succ n => rw [h1]; exact (s n).up
theorem TP.mono {x : Nat → Option ρ} {o : Rs β} {H' : Nat} (h : TP L d i π mk H x o) (hh : H ≤ H') : TP L d i π mk H' x o := fun hne => by
  obtain ⟨r, g, s⟩ := h hne
  exact ⟨r, g, fun n => (s n).mono hh⟩
theorem TP.eq {x y : Nat → Option ρ} {o : Rs β} (h : TP L d i π mk H y o) (e : ∀ n, x n = y n) : TP L d i π mk H x o := by
  rw [show x = y from funext e]; exact h
theorem TP.unf {x : Nat → Option ρ} {o : Rs β} (h : TP L d i π mk H x o) : TP L d i π mk 0 (fun _ => unf x) o := fun hne => by
  obtain ⟨r, g, s⟩ := h hne
  exact ⟨r, g, fun n => .inl (Sn.unf s)⟩
end
theorem her_of {ρ : Type} {P : ρ → Prop} {x : Nat → Option ρ} {r : ρ} {H : Nat} (e : ∀ n, Sn n H (x n) r) (p : P r) : ∃ r, P r ∧ ∀ n, Sn n H (x n) r := ⟨r, p, e⟩
/-! ### Signs and names -/
theorem tokT_list (t : Tok) : (tokT t).Text.data.toList = t.text := by simp [tokT]
theorem idx0 {α : Type} (x : α) (l : List α) : idx (x :: l) 0 = some x := rfl
theorem lsub1 {α : Type} (x : α) (l : List α) (h : l.length ≤ 4611686018427387904) : lsub (x :: l) 1 ((x :: l).length : Int) = some l := by
  unfold lsub
  rw [if_pos ⟨by omega, by simp only [List.length_cons]; omega, by omega⟩]
  simp
section
variable {L d i : Int} {ts : List Tok}
theorem sees_P (w : ByteArray) : parse_reader_sees (PS L ts d i) w = some (sSees w ts) := by
  cases ts with
  | nil => rfl
  | cons t r =>
    unfold parse_reader_sees PS sSees
    have h1 : decide (((tokT t :: r.map tokT).length : Int) > 0) = true := by simp
    have e : (tokT t).Kind = t.kind := rfl
    simp only [beq_self_eq_true, if_true, List.map_cons, h1, idx0, Option.bind_eq_bind, Option.bind_some, Go.ByteArray.toList_eq, tokT_list, e]
    cases decide (t.kind ≥ 3) <;> simp
theorem of_P (k : Int) : parse_reader_of (PS L ts d i) k = some (sOf k ts) := by
  cases ts with
  | nil => rfl
  | cons t r =>
    unfold parse_reader_of PS sOf
    have h1 : decide (((tokT t :: r.map tokT).length : Int) > 0) = true := by simp
    simp only [beq_self_eq_true, if_true, List.map_cons, h1, idx0, Option.bind_eq_bind, Option.bind_some]
    rfl
theorem fail_P (c : Int) : parse_reader_fail (PS L ts d i) c = some ⟨ts.map tokT, L, c, sAt L ts, d, i⟩ := by
  cases ts with
  | nil => rfl
  | cons t r =>
    unfold parse_reader_fail PS sAt
    have h1 : decide (((tokT t :: r.map tokT).length : Int) > 0) = true := by simp
    simp only [bne_self, Bool.false_eq_true, if_false, if_true, List.map_cons, h1, idx0, Option.bind_eq_bind, Option.bind_some]
    rfl
theorem skip_P (hl : ts.length ≤ 2000) (w : ByteArray) : parse_reader_skip (PS L ts d i) w = some (if sSees w ts then (PS L ts.tail d i, true) else (PS L ts d i, false)) := by
  unfold parse_reader_skip
  rw [sees_P]
  cases hs : sSees w ts with
  | false => rfl
  | true =>
    cases ts with
    | nil => cases hs
    | cons t r =>
      simp only [Option.bind_eq_bind, Option.bind_some, Bool.not_true, Bool.false_eq_true, if_false, if_true, List.tail_cons]
      have : lsub (PS L (t :: r) d i).f_l 1 ((PS L (t :: r) d i).f_l.length : Int) = some (r.map tokT) := lsub1 (tokT t) (r.map tokT) (by simp at hl ⊢; omega)
      rw [this]; rfl
theorem must_P (hl : ts.length ≤ 2000) (w : ByteArray) : parse_reader_must (PS L ts d i) w = some (if sSees w ts then PS L ts.tail d i else ⟨ts.map tokT, L, 5, sAt L ts, d, i⟩) := by
  unfold parse_reader_must
  rw [skip_P hl]
  cases hs : sSees w ts with
  | false => simp [fail_P]
  | true => simp
abbrev mkM : Unit → parse_reader → parse_reader := fun _ a => a
abbrev mkV {α : Type} : α → parse_reader → parse_reader × α := fun v a => (a, v)
theorem must_T {H : Nat} (hl : ts.length ≤ 2000) (w : ByteArray) : TP L d i id mkM H (fun _ => parse_reader_must (PS L ts d i) w) (sMust L w ts) := by
  unfold sMust
  cases hs : sSees w ts with
  | true => exact TP.pure (fun n => by rw [must_P hl, hs]; rfl)
  | false => exact TP.err (r := ⟨ts.map tokT, L, 5, sAt L ts, d, i⟩) (fun n => by rw [must_P hl, hs]; rfl) (by decide) ⟨rfl, rfl⟩
theorem take_P (hl : ts.length ≤ 2000) (k : Int) : parse_reader_take (PS L ts d i) k = match ts with
    | [] => some (⟨[], L, 5, L, d, i⟩, ⟨0, ByteArray.mk #[], 0, 0⟩)
    | t :: r => if t.kind == k then some (PS L r d i, tokT t) else some (⟨(t :: r).map tokT, L, 5, (t.at_ : Int), d, i⟩, ⟨0, ByteArray.mk #[], 0, 0⟩) := by
  unfold parse_reader_take
  rw [of_P]
  cases ts with
  | nil => rfl
  | cons t r =>
    simp only [sOf]
    cases hk : (t.kind == k) with
    | false => simp only [Option.bind_eq_bind, Option.bind_some, Bool.not_false, if_true, fail_P, Bool.false_eq_true, if_false]; rfl
    | true =>
      have : lsub (PS L (t :: r) d i).f_l 1 ((PS L (t :: r) d i).f_l.length : Int) = some (r.map tokT) := lsub1 (tokT t) (r.map tokT) (by simp at hl ⊢; omega)
      have h0 : idx (PS L (t :: r) d i).f_l 0 = some (tokT t) := rfl
      simp only [Option.bind_eq_bind, Option.bind_some, Bool.not_true, Bool.false_eq_true, if_false, if_true, this, h0]
      rfl
theorem name_T {H : Nat} (hl : ts.length ≤ 2000) : TP L d i Prod.fst mkV H (fun _ => parse_reader_name (PS L ts d i)) (sName L ts) := by
  unfold parse_reader_name
  cases ts with
  | nil => exact TP.err (r := (⟨[], L, 5, L, d, i⟩, ByteArray.mk #[])) (fun n => by rw [take_P hl]; rfl) (by decide) ⟨rfl, rfl⟩
  | cons t r =>
    simp only [sName]
    cases hk : (t.kind == 1) with
    | true => exact TP.pure (fun n => by rw [take_P hl]; simp only [hk, if_true]; rfl)
    | false => exact TP.err (r := (⟨(t :: r).map tokT, L, 5, (t.at_ : Int), d, i⟩, ByteArray.mk #[])) (fun n => by rw [take_P hl]; simp only [hk, Bool.false_eq_true, if_false]; rfl) (by decide) ⟨rfl, rfl⟩
theorem num_T {H : Nat} (hl : ts.length ≤ 2000) : TP L d i Prod.fst mkV H (fun _ => parse_reader_number (PS L ts d i)) (sNum L ts) := by
  unfold parse_reader_number
  cases ts with
  | nil => exact TP.err (r := (⟨[], L, 5, L, d, i⟩, 0)) (fun n => by rw [take_P hl]; rfl) (by decide) ⟨rfl, rfl⟩
  | cons t r =>
    simp only [sNum]
    cases hk : (t.kind == 2) with
    | true => exact TP.pure (fun n => by rw [take_P hl]; simp only [hk, if_true]; rfl)
    | false => exact TP.err (r := (⟨(t :: r).map tokT, L, 5, (t.at_ : Int), d, i⟩, 0)) (fun n => by rw [take_P hl]; simp only [hk, Bool.false_eq_true, if_false]; rfl) (by decide) ⟨rfl, rfl⟩
def tp6 (a : parse_reader) : List lex_Token × Int × Int × Int × Int × Int := (a.f_l, a.f_end, a.f_e, a.f_at, a.f_deep, a.f_in)
theorem which_it (hl : ts.length ≤ 2000) (ws : List ByteArray) (hw : ws.length ≤ 1000) : ∀ (m : List ByteArray) (k : Nat), ws.drop k = m → k ≤ ws.length →
    iter (slices_IndexFunc_string_string__parse_reader_skip_l1 ws) ((k : Int), tp6 (PS L ts d i)) = some (match sWhich m ts with | some j => .inl (PS L ts.tail d i, ((k + j : Nat) : Int)) | none => .inr (tp6 (PS L ts d i))) := by
  intro m
  induction m with
  | nil =>
    intro k hd hk
    have : k = ws.length := by have := List.drop_eq_nil_iff.1 hd; omega
    subst this
    refine iter_out ?_
    unfold slices_IndexFunc_string_string__parse_reader_skip_l1
    rw [if_neg (by simp)]
    rfl
  | cons w m ih =>
    intro k hd hk
    have hlt : k < ws.length := by
      refine Nat.lt_of_not_le fun h => ?_
      rw [List.drop_of_length_le h] at hd; cases hd
    rw [List.drop_eq_getElem_cons hlt] at hd
    injection hd with h1 h2
    have hi : idx ws (k : Int) = some w := by rw [idx_ok hlt, h1]
    have hs : parse_reader_skip (parse_reader.mk (tp6 (PS L ts d i)).1 (tp6 (PS L ts d i)).2.1 (tp6 (PS L ts d i)).2.2.1 (tp6 (PS L ts d i)).2.2.2.1 (tp6 (PS L ts d i)).2.2.2.2.1 (tp6 (PS L ts d i)).2.2.2.2.2) w = _ := skip_P hl w
    have hbody : slices_IndexFunc_string_string__parse_reader_skip_l1 ws ((k : Int), tp6 (PS L ts d i)) = some (if sSees w ts then .inr (.inl (PS L ts.tail d i, (k : Int))) else .inl (((k + 1 : Nat) : Int), tp6 (PS L ts d i))) := by
      unfold slices_IndexFunc_string_string__parse_reader_skip_l1
      rw [if_pos (by simpa using hlt)]
      simp only [hi, Option.bind_eq_bind, Option.bind_some, hs, wsucc (i := k) (by omega)]
      cases sSees w ts <;> rfl
    simp only [sWhich]
    cases hsw : sSees w ts with
    | true =>
      rw [hsw, if_pos rfl] at hbody
      rw [iter_out hbody]; simp
    | false =>
      rw [hsw, if_neg (by decide)] at hbody
      rw [iter_in hbody, ih (k + 1) h2 hlt]
      cases sWhich m ts with
      | none => simp
      | some j => simp; omega
theorem which_P (hl : ts.length ≤ 2000) (ws : List ByteArray) (hw : ws.length ≤ 1000) : parse_reader_which (PS L ts d i) ws = some (match sWhich ws ts with | some j => (PS L ts.tail d i, (j : Int)) | none => (PS L ts d i, -1)) := by
  have h := which_it (L := L) (d := d) (i := i) hl ws hw ws 0 rfl (by omega)
  unfold parse_reader_which slices_IndexFunc_string_string__parse_reader_skip
  have e : (((0 : Nat) : Int), tp6 (PS L ts d i)) = (0, (PS L ts d i).f_l, (PS L ts d i).f_end, (PS L ts d i).f_e, (PS L ts d i).f_at, (PS L ts d i).f_deep, (PS L ts d i).f_in) := rfl
  rw [← e, h]
  cases sWhich ws ts with
  | none => rfl
  | some j => simp
end
/-! ### Where there is an error, nothing is done -/
section
variable {a : parse_reader} (h : a.f_e ≠ 0)
include h
theorem e0 : (a.f_e == 0) = false := by simpa using h
theorem e1 : (a.f_e != 0) = true := by simpa using h
theorem sees_e (w : ByteArray) : parse_reader_sees a w = some false := by unfold parse_reader_sees; rw [if_neg (by simp [h])]
theorem of_e (k : Int) : parse_reader_of a k = some false := by unfold parse_reader_of; rw [if_neg (by simp [h])]
theorem fail_e (c : Int) : parse_reader_fail a c = some a := by unfold parse_reader_fail; rw [if_pos (by simp [h])]
theorem skip_e (w : ByteArray) : parse_reader_skip a w = some (a, false) := by unfold parse_reader_skip; rw [sees_e h]; rfl
theorem must_e (w : ByteArray) : parse_reader_must a w = some a := by
  unfold parse_reader_must; rw [skip_e h]
  simp only [Option.bind_eq_bind, Option.bind_some, Bool.not_false, if_true, fail_e h]
theorem take_e (k : Int) : parse_reader_take a k = some (a, ⟨0, ByteArray.mk #[], 0, 0⟩) := by
  unfold parse_reader_take; rw [of_e h]
  simp only [Option.bind_eq_bind, Option.bind_some, Bool.not_false, if_true, fail_e h]
theorem name_e : parse_reader_name a = some (a, ByteArray.mk #[]) := by unfold parse_reader_name; rw [take_e h]; rfl
theorem num_e : parse_reader_number a = some (a, 0) := by unfold parse_reader_number; rw [take_e h]; rfl
theorem which_e (ws : List ByteArray) (hw : ws.length ≤ 1000) : parse_reader_which a ws = some (a, -1) := by
  have it : ∀ (m : List ByteArray) (k : Nat), ws.drop k = m → k ≤ ws.length → iter (slices_IndexFunc_string_string__parse_reader_skip_l1 ws) ((k : Int), tp6 a) = some (.inr (tp6 a)) := by
    intro m
    induction m with
    | nil =>
      intro k hd hk
      have : k = ws.length := by have := List.drop_eq_nil_iff.1 hd; omega
      subst this
      refine iter_out ?_
      unfold slices_IndexFunc_string_string__parse_reader_skip_l1
      rw [if_neg (by simp)]
      try rfl
    | cons w m ih =>
      intro k hd hk
      have hlt : k < ws.length := by
        refine Nat.lt_of_not_le fun h => ?_
        rw [List.drop_of_length_le h] at hd; cases hd
      rw [List.drop_eq_getElem_cons hlt] at hd
      injection hd with h1 h2
      have hi : idx ws (k : Int) = some w := by rw [idx_ok hlt, h1]
      have hs : parse_reader_skip (parse_reader.mk (tp6 a).1 (tp6 a).2.1 (tp6 a).2.2.1 (tp6 a).2.2.2.1 (tp6 a).2.2.2.2.1 (tp6 a).2.2.2.2.2) w = _ := skip_e h w
      rw [iter_in (y := (((k + 1 : Nat) : Int), tp6 a))]
      · exact ih (k + 1) h2 hlt
      · unfold slices_IndexFunc_string_string__parse_reader_skip_l1
        rw [if_pos (by simpa using hlt)]
        simp only [hi, Option.bind_eq_bind, Option.bind_some, hs, wsucc (i := k) (by omega)]
        rfl
  unfold parse_reader_which slices_IndexFunc_string_string__parse_reader_skip
  have e : (((0 : Nat) : Int), tp6 a) = (0, a.f_l, a.f_end, a.f_e, a.f_at, a.f_deep, a.f_in) := rfl
  rw [← e, it ws 0 rfl (by omega)]
  try rfl
end
end Go.Proofs.YtokjbpmjdcbogaaGreatDoor.Abs.Par
/- The program's reader reads expressions as parsing does. -/
namespace Go.Proofs.YtokjbpmjdcbogaaGreatDoor.Abs.Par
open Go Go.RowKit Wri
set_option linter.unusedVariables false
set_option linter.unusedSimpArgs false
/-! ### What is left are the last words -/
theorem bind_ok {α β : Type} {o : Rs α} {k : α → List Tok → Rs β} {v : β} {r : List Tok} (h : o.bind k = .ok v r) : ∃ w s, o = .ok w s ∧ k w s = .ok v r := by
  cases o with
  | ok w s => exact ⟨w, s, rfl, h⟩
  | er c p => cases h
  | out => cases h
section
variable {L : Int}
theorem sees_pos {w : ByteArray} {ts : List Tok} (h : sSees w ts = true) : ts.tail.length < ts.length := by
  cases ts with
  | nil => cases h
  | cons t r => simp
theorem which_pos {ts : List Tok} : ∀ {ws : List ByteArray} {j : Nat}, sWhich ws ts = some j → ts.tail.length < ts.length ∧ j < ws.length
  | [], j, h => by cases h
  | w :: l, j, h => by
    simp only [sWhich] at h
    split at h
    · rename_i hs; injection h with h; subst h; exact ⟨sees_pos hs, by simp⟩
    · cases hw : sWhich l ts with
      | none => rw [hw] at h; cases h
      | some k =>
        rw [hw] at h; injection h with h
        have := which_pos hw
        exact ⟨this.1, by rw [← h]; simp; omega⟩
theorem must_suf {w : ByteArray} {ts r : List Tok} {v : Unit} (h : sMust L w ts = .ok v r) : r <:+ ts ∧ r.length < ts.length := by
  unfold sMust at h
  split at h
  · rename_i hs; injection h with _ h; subst h; exact ⟨List.tail_suffix ts, sees_pos hs⟩
  · cases h
theorem name_suf {ts r : List Tok} {v : ByteArray} (h : sName L ts = .ok v r) : r <:+ ts ∧ r.length < ts.length := by
  cases ts with
  | nil => cases h
  | cons t s =>
    simp only [sName] at h
    split at h
    · injection h with _ h; subst h; exact ⟨List.suffix_cons t s, by simp⟩
    · cases h
theorem num_suf {ts r : List Tok} {v : Int} (h : sNum L ts = .ok v r) : r <:+ ts ∧ r.length < ts.length := by
  cases ts with
  | nil => cases h
  | cons t s =>
    simp only [sNum] at h
    split at h
    · injection h with _ h; subst h; exact ⟨List.suffix_cons t s, by simp⟩
    · cases h
structure Suf (L : Int) (f : Nat) : Prop where
  fac : ∀ d ts v r, sFactor L f d ts = .ok v r → r <:+ ts
  mul : ∀ d e ts v r, sMul L f d e ts = .ok v r → r <:+ ts
  term : ∀ d ts v r, sTerm L f d ts = .ok v r → r <:+ ts
  add : ∀ d e ts v r, sAdd L f d e ts = .ok v r → r <:+ ts
  exp : ∀ d ts v r, sExpr L f d ts = .ok v r → r <:+ ts
theorem suf (L : Int) : ∀ f, Suf L f := by
  intro f
  induction f with
  | zero => exact ⟨fun d ts v r h => by simp [sFactor] at h, fun d e ts v r h => by simp [sMul] at h, fun d ts v r h => by simp [sTerm] at h, fun d e ts v r h => by simp [sAdd] at h, fun d ts v r h => by simp [sExpr] at h⟩
  | succ f ih =>
    refine ⟨fun d ts v r h => ?_, fun d e ts v r h => ?_, fun d ts v r h => ?_, fun d e ts v r h => ?_, fun d ts v r h => ?_⟩
    · simp only [sFactor] at h
      split at h
      · split at h
        · cases h
        · obtain ⟨w, s, h1, h2⟩ := bind_ok h
          injection h2 with _ h2; subst h2
          exact (ih.fac _ _ _ _ h1).trans (List.tail_suffix ts)
      · split at h
        · split at h
          · cases h
          · obtain ⟨w, s, h1, h2⟩ := bind_ok h
            obtain ⟨w', s', h3, h4⟩ := bind_ok h2
            injection h4 with _ h4; subst h4
            exact ((must_suf h3).1.trans (ih.exp _ _ _ _ h1)).trans (List.tail_suffix ts)
        · split at h
          · obtain ⟨w, s, h1, h2⟩ := bind_ok h
            injection h2 with _ h2; subst h2
            exact (num_suf h1).1
          · obtain ⟨w, s, h1, h2⟩ := bind_ok h
            injection h2 with _ h2; subst h2
            exact (name_suf h1).1
    · simp only [sMul] at h
      split at h
      · injection h with _ h; subst h; exact List.suffix_refl _
      · obtain ⟨w, s, h1, h2⟩ := bind_ok h
        exact ((ih.mul _ _ _ _ _ h2).trans (ih.fac _ _ _ _ h1)).trans (List.tail_suffix ts)
    · simp only [sTerm] at h
      obtain ⟨w, s, h1, h2⟩ := bind_ok h
      exact (ih.mul _ _ _ _ _ h2).trans (ih.fac _ _ _ _ h1)
    · simp only [sAdd] at h
      split at h
      · injection h with _ h; subst h; exact List.suffix_refl _
      · obtain ⟨w, s, h1, h2⟩ := bind_ok h
        exact ((ih.add _ _ _ _ _ h2).trans (ih.term _ _ _ _ h1)).trans (List.tail_suffix ts)
    · simp only [sExpr] at h
      obtain ⟨w, s, h1, h2⟩ := bind_ok h
      exact (ih.add _ _ _ _ _ h2).trans (ih.term _ _ _ _ h1)
end
/-! ### Errors -/
def zA : ast_Expr := ⟨0, 0, ByteArray.mk #[], []⟩
def vA : ast_Expr := ⟨2, 0, ByteArray.mk #[], []⟩
def tpE (a : parse_reader) (e : ast_Expr) : List lex_Token × Int × Int × Int × Int × Int × Int × Int × ByteArray × List ast_Expr := (a.f_l, a.f_end, a.f_e, a.f_at, a.f_deep, a.f_in, e.Kind, e.Num, e.Name, e.Kids)
noncomputable def MB (n : Nat) := parse_reader_chain_parse_reader_factor_l1 (parse_reader_exprN n) (parse_reader_chain_parse_reader_termN n) (parse_reader_termN n) (parse_reader_chain_parse_reader_factorN n) (parse_reader_factorN n) (parse_reader_negatedN n) (parse_reader_parensN n) mulS 6
noncomputable def AB (n : Nat) := parse_reader_chain_parse_reader_term_l1 (parse_reader_exprN n) (parse_reader_chain_parse_reader_termN n) (parse_reader_termN n) (parse_reader_chain_parse_reader_factorN n) (parse_reader_factorN n) (parse_reader_negatedN n) (parse_reader_parensN n) addS 4
abbrev E10 := List lex_Token × Int × Int × Int × Int × Int × Int × Int × ByteArray × List ast_Expr
def finE (j1 : E10) : Option (parse_reader × ast_Expr) := some ((parse_reader.mk j1.1 j1.2.1 j1.2.2.1 j1.2.2.2.1 j1.2.2.2.2.1 j1.2.2.2.2.2.1), (ast_Expr.mk j1.2.2.2.2.2.2.1 j1.2.2.2.2.2.2.2.1 j1.2.2.2.2.2.2.2.2.1 j1.2.2.2.2.2.2.2.2.2))
noncomputable def MF (n : Nat) (a : parse_reader) (e : ast_Expr) : Option (parse_reader × ast_Expr) := iter (MB n) (tpE a e) >>= Sum.elim (fun _ => none) finE
noncomputable def AF (n : Nat) (a : parse_reader) (e : ast_Expr) : Option (parse_reader × ast_Expr) := iter (AB n) (tpE a e) >>= Sum.elim (fun _ => none) finE
section
variable {a : parse_reader} (h : a.f_e ≠ 0)
include h
theorem MF_e (n : Nat) (e : ast_Expr) : MF n a e = some (a, e) := by
  obtain ⟨k, m, s, l⟩ := e
  unfold MF
  rw [iter_out (r := .inr (tpE a ⟨k, m, s, l⟩)) (by
    unfold MB parse_reader_chain_parse_reader_factor_l1
    rw [if_neg (by simpa [tpE] using h)])]
  rfl
theorem AF_e (n : Nat) (e : ast_Expr) : AF n a e = some (a, e) := by
  obtain ⟨k, m, s, l⟩ := e
  unfold AF
  rw [iter_out (r := .inr (tpE a ⟨k, m, s, l⟩)) (by
    unfold AB parse_reader_chain_parse_reader_term_l1
    rw [if_neg (by simpa [tpE] using h)])]
  rfl
theorem factor_e (n : Nat) : Sn n 1 (parse_reader_factorN n a) (a, vA) := by
  cases n with
  | zero => exact .inr ⟨rfl, by omega⟩
  | succ n =>
    refine .inl ?_
    simp only [parse_reader_factorN, sees_e h, of_e h, name_e h, Option.bind_eq_bind, Option.bind_some, Bool.false_eq_true, if_false]
    rfl
theorem chainF_e (n : Nat) : Sn n 2 (parse_reader_chain_parse_reader_factorN n a mulS 6) (a, vA) := by
  cases n with
  | zero => exact .inr ⟨rfl, by omega⟩
  | succ n =>
    simp only [parse_reader_chain_parse_reader_factorN]
    exact (Sn.bind (f := fun v1 => MF n v1.1 v1.2) (factor_e h n) (.inl (MF_e h n vA))).up
theorem term_e (n : Nat) : Sn n 3 (parse_reader_termN n a) (a, vA) := by
  cases n with
  | zero => exact .inr ⟨rfl, by omega⟩
  | succ n =>
    simp only [parse_reader_termN]
    exact (Sn.bind (f := fun v1 => some (v1.1, v1.2)) (chainF_e h n) (.inl rfl)).up
theorem chainT_e (n : Nat) : Sn n 4 (parse_reader_chain_parse_reader_termN n a addS 4) (a, vA) := by
  cases n with
  | zero => exact .inr ⟨rfl, by omega⟩
  | succ n =>
    simp only [parse_reader_chain_parse_reader_termN]
    exact (Sn.bind (f := fun v1 => AF n v1.1 v1.2) (term_e h n) (.inl (AF_e h n vA))).up
theorem exprN_e (n : Nat) : Sn n 5 (parse_reader_exprN n a) (a, vA) := by
  cases n with
  | zero => exact .inr ⟨rfl, by omega⟩
  | succ n =>
    simp only [parse_reader_exprN]
    exact (Sn.bind (f := fun v1 => some (v1.1, v1.2)) (chainT_e h n) (.inl rfl)).up
theorem expr_e : parse_reader_expr a = some (a, vA) := Sn.unf fun n => exprN_e h n
end
/-! ### Without -/
section
variable {L i : Int} {ts : List Tok} {d : Int}
theorem MF_eq (hl : ts.length ≤ 2000) (n : Nat) (e : ast_Expr) : MF n (PS L ts d i) e = match sWhich mulS ts with
    | none => some (PS L ts d i, e)
    | some j => parse_reader_factorN n (PS L ts.tail d i) >>= fun v => MF n v.1 ⟨6 + (j : Int), 0, ByteArray.mk #[], [e, v.2]⟩ := by
  obtain ⟨ek, em, es, el⟩ := e
  have hw := which_P (L := L) (d := d) (i := i) hl mulS (by decide)
  have hb : MB n (tpE (PS L ts d i) ⟨ek, em, es, el⟩) = match sWhich mulS ts with
      | none => some (.inr (.inr (tpE (PS L ts d i) ⟨ek, em, es, el⟩)))
      | some j => parse_reader_factorN n (PS L ts.tail d i) >>= fun v => some (.inl (tpE v.1 ⟨6 + (j : Int), 0, ByteArray.mk #[], [⟨ek, em, es, el⟩, v.2]⟩)) := by
    unfold MB parse_reader_chain_parse_reader_factor_l1
    rw [if_pos (by rfl)]
    show (parse_reader_which (PS L ts d i) mulS).bind _ = _
    rw [hw]
    cases hs : sWhich mulS ts with
    | none => simp only [Option.bind_some]; rfl
    | some j =>
      have hj := (which_pos hs).2
      have hj : j < 3 := hj
      have h1 : decide (((j : Nat) : Int) < 0) = false := by simp
      have h2 : IntKind.i64.wrap (6 + (j : Int)) = 6 + (j : Int) := w64 (by omega) (by omega)
      simp only [Option.bind_some, h1, Bool.false_eq_true, if_false, h2]
      rfl
  unfold MF
  rw [iter_eq, hb]
  cases hs : sWhich mulS ts with
  | none => rfl
  | some j =>
    simp only [Option.bind_eq_bind, Option.bind_assoc, Option.bind_some]
theorem AF_eq (hl : ts.length ≤ 2000) (n : Nat) (e : ast_Expr) : AF n (PS L ts d i) e = match sWhich addS ts with
    | none => some (PS L ts d i, e)
    | some j => parse_reader_termN n (PS L ts.tail d i) >>= fun v => AF n v.1 ⟨4 + (j : Int), 0, ByteArray.mk #[], [e, v.2]⟩ := by
  obtain ⟨ek, em, es, el⟩ := e
  have hw := which_P (L := L) (d := d) (i := i) hl addS (by decide)
  have hb : AB n (tpE (PS L ts d i) ⟨ek, em, es, el⟩) = match sWhich addS ts with
      | none => some (.inr (.inr (tpE (PS L ts d i) ⟨ek, em, es, el⟩)))
      | some j => parse_reader_termN n (PS L ts.tail d i) >>= fun v => some (.inl (tpE v.1 ⟨4 + (j : Int), 0, ByteArray.mk #[], [⟨ek, em, es, el⟩, v.2]⟩)) := by
    unfold AB parse_reader_chain_parse_reader_term_l1
    rw [if_pos (by rfl)]
    show (parse_reader_which (PS L ts d i) addS).bind _ = _
    rw [hw]
    cases hs : sWhich addS ts with
    | none => simp only [Option.bind_some]; rfl
    | some j =>
      have hj := (which_pos hs).2
      have hj : j < 2 := hj
      have h1 : decide (((j : Nat) : Int) < 0) = false := by simp
      have h2 : IntKind.i64.wrap (4 + (j : Int)) = 4 + (j : Int) := w64 (by omega) (by omega)
      simp only [Option.bind_some, h1, Bool.false_eq_true, if_false, h2]
      rfl
  unfold AF
  rw [iter_eq, hb]
  cases hs : sWhich addS ts with
  | none => rfl
  | some j =>
    simp only [Option.bind_eq_bind, Option.bind_assoc, Option.bind_some]
end
abbrev mkE : r02_Expr → parse_reader → parse_reader × ast_Expr := fun v a => (a, cE v)
structure PX (L i : Int) (f : Nat) : Prop where
  fac : ∀ (d : Nat) ts, d ≤ 24 → ts.length ≤ 2000 → TP L d i Prod.fst mkE (2 * f) (fun n => parse_reader_factorN n (PS L ts d i)) (sFactor L f d ts)
  mul : ∀ (d : Nat) e ts, d ≤ 24 → ts.length ≤ 2000 → TP L d i Prod.fst mkE (2 * f) (fun n => MF n (PS L ts d i) (cE e)) (sMul L f d e ts)
  term : ∀ (d : Nat) ts, d ≤ 24 → ts.length ≤ 2000 → TP L d i Prod.fst mkE (2 * f) (fun n => parse_reader_termN n (PS L ts d i)) (sTerm L f d ts)
  add : ∀ (d : Nat) e ts, d ≤ 24 → ts.length ≤ 2000 → TP L d i Prod.fst mkE (2 * f) (fun n => AF n (PS L ts d i) (cE e)) (sAdd L f d e ts)
  exp : ∀ (d : Nat) ts, d ≤ 24 → ts.length ≤ 2000 → TP L d i Prod.fst mkE (2 * f) (fun n => parse_reader_exprN n (PS L ts d i)) (sExpr L f d ts)
theorem tp_out {ρ β : Type} {L d i : Int} {π : ρ → parse_reader} {mk : β → parse_reader → ρ} {H : Nat} {x : Nat → Option ρ} : TP L d i π mk H x (.out : Rs β) := fun h => absurd rfl h
theorem pair_eta {α β : Type} (x : Option (α × β)) : (x.bind fun v => some (v.1, v.2)) = x := by cases x <;> rfl
theorem ep_ne {a : parse_reader} {c p : Int} (hc : c ≠ 0) (h : EP a c p) : a.f_e ≠ 0 := by rw [h.1]; exact hc
theorem opens_P {L i : Int} {ts : List Tok} {d : Nat} (hd : d ≤ 24) : parse_reader_opens (PS L ts d i) = some (if d = 24 then (⟨ts.map tokT, L, 6, sAt L ts, d, i⟩, false) else (PS L ts ((d + 1 : Nat) : Int) i, true)) := by
  unfold parse_reader_opens
  by_cases h : d = 24
  · subst h
    rw [if_pos (by rfl), fail_P]; rfl
  · have : ((PS L ts (d : Int) i).f_deep == 24) = false := by
      show ((d : Int) == 24) = false
      simp; omega
    rw [this, if_neg (by decide), if_neg h]
    have hw : IntKind.i64.wrap ((d : Int) + 1) = ((d + 1 : Nat) : Int) := by rw [w64 (by omega) (by omega)]; omega
    show some ((⟨ts.map tokT, L, 0, 0, IntKind.i64.wrap ((d : Int) + 1), i⟩ : parse_reader), true) = _
    rw [hw]; rfl
theorem px (L i : Int) : ∀ f, PX L i f := by
  intro f
  induction f with
  | zero => exact ⟨fun d ts _ _ => by simp only [sFactor]; exact tp_out, fun d e ts _ _ => by simp only [sMul]; exact tp_out, fun d ts _ _ => by simp only [sTerm]; exact tp_out, fun d e ts _ _ => by simp only [sAdd]; exact tp_out, fun d ts _ _ => by simp only [sExpr]; exact tp_out⟩
  | succ f ih =>
    have sf := suf L f
    refine ⟨fun d ts hd hl => ?_, fun d e ts hd hl => ?_, fun d ts hd hl => ?_, fun d e ts hd hl => ?_, fun d ts hd hl => ?_⟩
    · -- a factor
      simp only [sFactor]
      cases h1 : sSees (ByteArray.mk #[45]) ts with
      | true =>
        have hlt : ts.tail.length ≤ 2000 := by have := sees_pos h1; omega
        simp only [if_true]
        refine TP.up (H := 2 * f + 1) (x := fun n => parse_reader_negatedN n (PS L ts d i)) rfl (fun n => by simp only [parse_reader_factorN, sees_P, h1, Option.bind_eq_bind, Option.bind_some, if_true, pair_eta]) ?_
        by_cases h24 : d = 24
        · rw [if_pos h24]
          refine TP.up (H := 2 * f) (x := fun _ => some (⟨ts.map tokT, L, 6, sAt L ts, d, i⟩, zA)) rfl (fun n => by simp only [parse_reader_negatedN, opens_P hd, if_pos h24, Option.bind_eq_bind, Option.bind_some]; rfl) ?_
          exact TP.err (fun n => rfl) (by decide) ⟨rfl, rfl⟩
        · rw [if_neg h24]
          refine TP.up (H := 2 * f) (x := fun n => parse_reader_factorN n (PS L ts.tail ((d + 1 : Nat) : Int) i) >>= fun v3 => some ((parse_reader.mk v3.1.f_l v3.1.f_end v3.1.f_e v3.1.f_at (IntKind.i64.wrap (v3.1.f_deep - 1)) v3.1.f_in), (ast_Expr.mk 3 0 (ByteArray.mk #[]) [v3.2]))) rfl (fun n => by
            simp only [parse_reader_negatedN, opens_P hd, if_neg h24, Option.bind_eq_bind, Option.bind_some, Bool.not_true, Bool.false_eq_true, if_false, must_P hl, h1, if_true]) ?_
          refine TP.bind (ih.fac (d + 1) ts.tail (by omega) hlt) (fun v r hv => TP.pure (fun n => ?_)) (fun r c p hc he => her_of (fun n => .inl rfl) ⟨he.1, he.2⟩)
          have hw : IntKind.i64.wrap (((d + 1 : Nat) : Int) - 1) = (d : Int) := by rw [w64 (by omega) (by omega)]; omega
          show some ((⟨r.map tokT, L, 0, 0, IntKind.i64.wrap (((d + 1 : Nat) : Int) - 1), i⟩ : parse_reader), _) = _
          rw [hw]
          simp only [mkE, cE, cEs]; rfl
      | false =>
        simp only [Bool.false_eq_true, if_false]
        cases h2 : sSees (ByteArray.mk #[40]) ts with
        | true =>
          have hlt : ts.tail.length ≤ 2000 := by have := sees_pos h2; omega
          simp only [if_true]
          refine TP.up (H := 2 * f + 1) (x := fun n => parse_reader_parensN n (PS L ts d i)) rfl (fun n => by simp only [parse_reader_factorN, sees_P, h1, h2, Option.bind_eq_bind, Option.bind_some, if_true, Bool.false_eq_true, if_false, pair_eta]) ?_
          by_cases h24 : d = 24
          · rw [if_pos h24]
            refine TP.up (H := 2 * f) (x := fun _ => some (⟨ts.map tokT, L, 6, sAt L ts, d, i⟩, zA)) rfl (fun n => by simp only [parse_reader_parensN, opens_P hd, if_pos h24, Option.bind_eq_bind, Option.bind_some]; rfl) ?_
            exact TP.err (fun n => rfl) (by decide) ⟨rfl, rfl⟩
          · rw [if_neg h24]
            refine TP.up (H := 2 * f) (x := fun n => parse_reader_exprN n (PS L ts.tail ((d + 1 : Nat) : Int) i) >>= fun v3 => parse_reader_must v3.1 (ByteArray.mk #[41]) >>= fun v4 => some ((parse_reader.mk v4.f_l v4.f_end v4.f_e v4.f_at (IntKind.i64.wrap (v4.f_deep - 1)) v4.f_in), v3.2)) rfl (fun n => by
              simp only [parse_reader_parensN, opens_P hd, if_neg h24, Option.bind_eq_bind, Option.bind_some, Bool.not_true, Bool.false_eq_true, if_false, must_P hl, h2, if_true]) ?_
            refine TP.bind (ih.exp (d + 1) ts.tail (by omega) hlt) (fun v r hv => ?_) (fun r c p hc he => her_of (r := ((⟨r.1.f_l, r.1.f_end, r.1.f_e, r.1.f_at, IntKind.i64.wrap (r.1.f_deep - 1), r.1.f_in⟩ : parse_reader), r.2)) (fun n => .inl (by rw [must_e (ep_ne hc he)]; rfl)) ⟨he.1, he.2⟩)
            have hr := (sf.exp _ _ _ _ hv).length_le
            refine TP.bind (π' := Prod.fst) (mk' := mkE) (k := fun n v4 => some ((parse_reader.mk v4.f_l v4.f_end v4.f_e v4.f_at (IntKind.i64.wrap (v4.f_deep - 1)) v4.f_in), cE v)) (must_T (L := L) (d := ((d + 1 : Nat) : Int)) (i := i) (ts := r) (H := 2 * f) (by omega) (ByteArray.mk #[41])) (fun _ r' hv' => TP.pure (fun n => ?_)) (fun r c p hc he => her_of (fun n => .inl rfl) ⟨he.1, he.2⟩)
            have hw : IntKind.i64.wrap (((d + 1 : Nat) : Int) - 1) = (d : Int) := by rw [w64 (by omega) (by omega)]; omega
            show some ((⟨r'.map tokT, L, 0, 0, IntKind.i64.wrap (((d + 1 : Nat) : Int) - 1), i⟩ : parse_reader), _) = _
            rw [hw]; rfl
        | false =>
          simp only [Bool.false_eq_true, if_false]
          cases h3 : sOf 2 ts with
          | true =>
            simp only [if_true]
            refine (TP.up (H := 2 * f) (x := fun n => parse_reader_number (PS L ts d i) >>= fun v6 => some (v6.1, (ast_Expr.mk 1 v6.2 (ByteArray.mk #[]) []))) rfl (fun n => by simp only [parse_reader_factorN, sees_P, of_P, h1, h2, h3, Option.bind_eq_bind, Option.bind_some, if_true, Bool.false_eq_true, if_false]) ?_).mono (by omega)
            refine TP.bind (num_T hl) (fun v r hv => TP.pure (fun n => ?_)) (fun r c p hc he => her_of (fun n => .inl rfl) ⟨he.1, he.2⟩)
            simp only [mkE, cE, cEs]
          | false =>
            simp only [Bool.false_eq_true, if_false]
            refine (TP.up (H := 2 * f) (x := fun n => parse_reader_name (PS L ts d i) >>= fun v7 => some (v7.1, (ast_Expr.mk 2 0 v7.2 []))) rfl (fun n => by simp only [parse_reader_factorN, sees_P, of_P, h1, h2, h3, Option.bind_eq_bind, Option.bind_some, Bool.false_eq_true, if_false]) ?_).mono (by omega)
            refine TP.bind (name_T hl) (fun v r hv => TP.pure (fun n => ?_)) (fun r c p hc he => her_of (fun n => .inl rfl) ⟨he.1, he.2⟩)
            simp only [mkE, cE, cEs]
    · -- products
      simp only [sMul]
      cases hs : sWhich mulS ts with
      | none => exact TP.pure (fun n => by rw [MF_eq hl, hs])
      | some j =>
        have hlt := (which_pos hs).1
        refine (TP.eq (y := fun n => parse_reader_factorN n (PS L ts.tail d i) >>= fun v => MF n v.1 ⟨6 + (j : Int), 0, ByteArray.mk #[], [cE e, v.2]⟩) ?_ (fun n => by rw [MF_eq hl, hs])).mono (show 2 * f ≤ 2 * (f + 1) by omega)
        refine TP.bind (ih.fac d ts.tail hd (by omega)) (fun v r hv => ?_) (fun r c p hc he => her_of (fun n => .inl (MF_e (ep_ne hc he) n _)) ⟨he.1, he.2⟩)
        have hr := (sf.fac _ _ _ _ hv).length_le
        have := ih.mul d ⟨6 + (j : Int), 0, ByteArray.mk #[], [e, v]⟩ r hd (by omega)
        simp only [cE, cEs] at this
        exact this
    · -- a term
      simp only [sTerm]
      refine TP.up (H := 2 * f + 1) (x := fun n => parse_reader_chain_parse_reader_factorN n (PS L ts d i) mulS 6) rfl (fun n => by simp only [parse_reader_termN, Option.bind_eq_bind, pair_eta]; rfl) ?_
      refine TP.up (H := 2 * f) (x := fun n => parse_reader_factorN n (PS L ts d i) >>= fun v1 => MF n v1.1 v1.2) rfl (fun n => rfl) ?_
      refine TP.bind (ih.fac d ts hd hl) (fun v r hv => ?_) (fun r c p hc he => her_of (fun n => .inl (MF_e (ep_ne hc he) n _)) ⟨he.1, he.2⟩)
      have hr := (sf.fac _ _ _ _ hv).length_le
      exact ih.mul d v r hd (by omega)
    · -- sums
      simp only [sAdd]
      cases hs : sWhich addS ts with
      | none => exact TP.pure (fun n => by rw [AF_eq hl, hs])
      | some j =>
        have hlt := (which_pos hs).1
        refine (TP.eq (y := fun n => parse_reader_termN n (PS L ts.tail d i) >>= fun v => AF n v.1 ⟨4 + (j : Int), 0, ByteArray.mk #[], [cE e, v.2]⟩) ?_ (fun n => by rw [AF_eq hl, hs])).mono (show 2 * f ≤ 2 * (f + 1) by omega)
        refine TP.bind (ih.term d ts.tail hd (by omega)) (fun v r hv => ?_) (fun r c p hc he => her_of (fun n => .inl (AF_e (ep_ne hc he) n _)) ⟨he.1, he.2⟩)
        have hr := (sf.term _ _ _ _ hv).length_le
        have := ih.add d ⟨4 + (j : Int), 0, ByteArray.mk #[], [e, v]⟩ r hd (by omega)
        simp only [cE, cEs] at this
        exact this
    · -- an expression
      simp only [sExpr]
      refine TP.up (H := 2 * f + 1) (x := fun n => parse_reader_chain_parse_reader_termN n (PS L ts d i) addS 4) rfl (fun n => by simp only [parse_reader_exprN, Option.bind_eq_bind, pair_eta]; rfl) ?_
      refine TP.up (H := 2 * f) (x := fun n => parse_reader_termN n (PS L ts d i) >>= fun v1 => AF n v1.1 v1.2) rfl (fun n => rfl) ?_
      refine TP.bind (ih.term d ts hd hl) (fun v r hv => ?_) (fun r c p hc he => her_of (fun n => .inl (AF_e (ep_ne hc he) n _)) ⟨he.1, he.2⟩)
      have hr := (sf.term _ _ _ _ hv).length_le
      exact ih.add d v r hd (by omega)
end Go.Proofs.YtokjbpmjdcbogaaGreatDoor.Abs.Par
/- The program's reader reads comparisons and plain statements as parsing does. -/
namespace Go.Proofs.YtokjbpmjdcbogaaGreatDoor.Abs.Par
open Go Go.RowKit Wri
set_option linter.unusedVariables false
set_option linter.unusedSimpArgs false
/-! ### Fuel -/
theorem bind_out {α β : Type} {o : Rs α} {k : α → List Tok → Rs β} (h : o.bind k = .out) : o = .out ∨ ∃ w s, o = .ok w s ∧ k w s = .out := by
  cases o with
  | ok w s => exact .inr ⟨w, s, rfl, h⟩
  | er c p => cases h
  | out => exact .inl rfl
theorem must_ne {L : Int} {w : ByteArray} {ts : List Tok} : sMust L w ts ≠ .out := by unfold sMust; split <;> simp
theorem name_ne {L : Int} {ts : List Tok} : sName L ts ≠ .out := by
  cases ts with
  | nil => simp [sName]
  | cons t r => simp only [sName]; split <;> simp
theorem num_ne {L : Int} {ts : List Tok} : sNum L ts ≠ .out := by
  cases ts with
  | nil => simp [sNum]
  | cons t r => simp only [sNum]; split <;> simp
structure Fu (L : Int) (f : Nat) : Prop where
  fac : ∀ d ts, 4 * ts.length + 1 ≤ f → sFactor L f d ts ≠ .out
  mul : ∀ d e ts, 4 * ts.length + 1 ≤ f → sMul L f d e ts ≠ .out
  term : ∀ d ts, 4 * ts.length + 2 ≤ f → sTerm L f d ts ≠ .out
  add : ∀ d e ts, 4 * ts.length + 2 ≤ f → sAdd L f d e ts ≠ .out
  exp : ∀ d ts, 4 * ts.length + 3 ≤ f → sExpr L f d ts ≠ .out
theorem fu (L : Int) : ∀ f, Fu L f := by
  intro f
  induction f with
  | zero => exact ⟨fun d ts h => by omega, fun d e ts h => by omega, fun d ts h => by omega, fun d e ts h => by omega, fun d ts h => by omega⟩
  | succ f ih =>
    have sf := suf L f
    refine ⟨fun d ts hf h => ?_, fun d e ts hf h => ?_, fun d ts hf h => ?_, fun d e ts hf h => ?_, fun d ts hf h => ?_⟩
    · simp only [sFactor] at h
      split at h
      · rename_i h1
        have := sees_pos h1
        split at h
        · cases h
        · rcases bind_out h with h | ⟨w, s, h2, h3⟩
          · exact ih.fac _ _ (by omega) h
          · cases h3
      · split at h
        · rename_i h1
          have := sees_pos h1
          split at h
          · cases h
          · rcases bind_out h with h | ⟨w, s, h2, h3⟩
            · exact ih.exp _ _ (by omega) h
            · rcases bind_out h3 with h | ⟨w, s, h4, h5⟩
              · exact must_ne h
              · cases h5
        · split at h
          · rcases bind_out h with h | ⟨w, s, h2, h3⟩
            · exact num_ne h
            · cases h3
          · rcases bind_out h with h | ⟨w, s, h2, h3⟩
            · exact name_ne h
            · cases h3
    · simp only [sMul] at h
      split at h
      · cases h
      · rename_i j hj
        have := (which_pos hj).1
        rcases bind_out h with h | ⟨w, s, h2, h3⟩
        · exact ih.fac _ _ (by omega) h
        · have := (sf.fac _ _ _ _ h2).length_le
          exact ih.mul _ _ _ (by omega) h3
    · simp only [sTerm] at h
      rcases bind_out h with h | ⟨w, s, h2, h3⟩
      · exact ih.fac _ _ (by omega) h
      · have := (sf.fac _ _ _ _ h2).length_le
        exact ih.mul _ _ _ (by omega) h3
    · simp only [sAdd] at h
      split at h
      · cases h
      · rename_i j hj
        have := (which_pos hj).1
        rcases bind_out h with h | ⟨w, s, h2, h3⟩
        · exact ih.term _ _ (by omega) h
        · have := (sf.term _ _ _ _ h2).length_le
          exact ih.add _ _ _ (by omega) h3
    · simp only [sExpr] at h
      rcases bind_out h with h | ⟨w, s, h2, h3⟩
      · exact ih.term _ _ (by omega) h
      · have := (sf.term _ _ _ _ h2).length_le
        exact ih.add _ _ _ (by omega) h3
/-! ### What comparisons and plain statements are -/
section
variable (L : Int)
def eX (ts : List Tok) : Rs r02_Expr := sExpr L (4 * ts.length + 3) 0 ts
def cmpS : List ByteArray := [(ByteArray.mk #[61, 61]), (ByteArray.mk #[33, 61]), (ByteArray.mk #[60]), (ByteArray.mk #[60, 61]), (ByteArray.mk #[62]), (ByteArray.mk #[62, 61])]
def sCond (ts : List Tok) : Rs r02_Cond := (sMust L (ByteArray.mk #[40]) ts).bind fun _ r1 => (eX L r1).bind fun l r2 => match sWhich cmpS r2 with
  | none => .er 5 (sAt L r2)
  | some j => (eX L r2.tail).bind fun r r3 => (sMust L (ByteArray.mk #[41]) r3).bind fun _ r4 => .ok ⟨1 + (j : Int), l, r⟩ r4
abbrev nB : ByteArray := ByteArray.mk #[]
def sSend (ts : List Tok) : Rs r02_Stmt := (sName L ts).bind fun n r1 => (sMust L (ByteArray.mk #[46]) r1).bind fun _ r2 => (sName L r2).bind fun t r3 => (sMust L (ByteArray.mk #[40]) r3).bind fun _ r4 =>
  (eX L r4).bind fun e r5 => (sMust L (ByteArray.mk #[41]) r5).bind fun _ r6 => (sMust L (ByteArray.mk #[59]) r6).bind fun _ r7 => .ok (.mk 4 n t e zC [] [] []) r7
def sAssert (ts : List Tok) : Rs r02_Stmt := (sCond L ts).bind fun c r1 => (sMust L (ByteArray.mk #[59]) r1).bind fun _ r2 => .ok (.mk 6 nB nB zE c [] [] []) r2
def sInput (ts : List Tok) : Rs r02_Stmt := (sName L ts).bind fun n r1 => (sMust L (ByteArray.mk #[59]) r1).bind fun _ r2 => .ok (.mk 7 n nB zE zC [] [] []) r2
def sAssign (ts : List Tok) : Rs r02_Stmt := (sName L ts).bind fun n r1 => (sMust L (ByteArray.mk #[61]) r1).bind fun _ r2 => (eX L r2).bind fun e r3 => (sMust L (ByteArray.mk #[59]) r3).bind fun _ r4 => .ok (.mk 1 n nB e zC [] [] []) r4
end
section
variable {L : Int} {ts r : List Tok}
theorem eX_ne : eX L ts ≠ .out := (fu L _).exp _ _ (Nat.le_refl _)
theorem eX_suf {v : r02_Expr} (h : eX L ts = .ok v r) : r <:+ ts := (suf L _).exp _ _ _ _ h
theorem cond_ne : sCond L ts ≠ .out := fun h => by
  unfold sCond at h
  rcases bind_out h with h | ⟨_, r1, _, h⟩
  · exact must_ne h
  rcases bind_out h with h | ⟨l, r2, _, h⟩
  · exact eX_ne h
  split at h
  · cases h
  rcases bind_out h with h | ⟨_, r3, _, h⟩
  · exact eX_ne h
  rcases bind_out h with h | ⟨_, r4, _, h⟩
  · exact must_ne h
  · cases h
theorem cond_suf {v : r02_Cond} (h : sCond L ts = .ok v r) : r <:+ ts ∧ r.length < ts.length := by
  unfold sCond at h
  obtain ⟨_, r1, h1, h⟩ := bind_ok h
  obtain ⟨l, r2, h2, h⟩ := bind_ok h
  split at h
  · cases h
  obtain ⟨e, r3, h3, h⟩ := bind_ok h
  obtain ⟨_, r4, h4, h⟩ := bind_ok h
  injection h with _ h; subst h
  have q1 := must_suf h1
  have q2 := eX_suf h2
  have q3 := eX_suf h3
  have q4 := must_suf h4
  have q := q4.1.trans (q3.trans ((List.tail_suffix r2).trans q2))
  exact ⟨q.trans q1.1, by have := q.length_le; omega⟩
theorem send_ne : sSend L ts ≠ .out := fun h => by
  unfold sSend at h
  rcases bind_out h with h | ⟨_, _, _, h⟩
  · exact name_ne h
  rcases bind_out h with h | ⟨_, _, _, h⟩
  · exact must_ne h
  rcases bind_out h with h | ⟨_, _, _, h⟩
  · exact name_ne h
  rcases bind_out h with h | ⟨_, _, _, h⟩
  · exact must_ne h
  rcases bind_out h with h | ⟨_, _, _, h⟩
  · exact eX_ne h
  rcases bind_out h with h | ⟨_, _, _, h⟩
  · exact must_ne h
  rcases bind_out h with h | ⟨_, _, _, h⟩
  · exact must_ne h
  · cases h
theorem send_suf {v : r02_Stmt} (h : sSend L ts = .ok v r) : r <:+ ts := by
  unfold sSend at h
  obtain ⟨_, r1, h1, h⟩ := bind_ok h
  obtain ⟨_, r2, h2, h⟩ := bind_ok h
  obtain ⟨_, r3, h3, h⟩ := bind_ok h
  obtain ⟨_, r4, h4, h⟩ := bind_ok h
  obtain ⟨_, r5, h5, h⟩ := bind_ok h
  obtain ⟨_, r6, h6, h⟩ := bind_ok h
  obtain ⟨_, r7, h7, h⟩ := bind_ok h
  injection h with _ h; subst h
  exact (must_suf h7).1.trans ((must_suf h6).1.trans ((eX_suf h5).trans ((must_suf h4).1.trans ((name_suf h3).1.trans ((must_suf h2).1.trans (name_suf h1).1)))))
theorem assert_ne : sAssert L ts ≠ .out := fun h => by
  unfold sAssert at h
  rcases bind_out h with h | ⟨_, _, _, h⟩
  · exact cond_ne h
  rcases bind_out h with h | ⟨_, _, _, h⟩
  · exact must_ne h
  · cases h
theorem assert_suf {v : r02_Stmt} (h : sAssert L ts = .ok v r) : r <:+ ts := by
  unfold sAssert at h
  obtain ⟨_, r1, h1, h⟩ := bind_ok h
  obtain ⟨_, r2, h2, h⟩ := bind_ok h
  injection h with _ h; subst h
  exact (must_suf h2).1.trans (cond_suf h1).1
theorem input_ne : sInput L ts ≠ .out := fun h => by
  unfold sInput at h
  rcases bind_out h with h | ⟨_, _, _, h⟩
  · exact name_ne h
  rcases bind_out h with h | ⟨_, _, _, h⟩
  · exact must_ne h
  · cases h
theorem input_suf {v : r02_Stmt} (h : sInput L ts = .ok v r) : r <:+ ts := by
  unfold sInput at h
  obtain ⟨_, r1, h1, h⟩ := bind_ok h
  obtain ⟨_, r2, h2, h⟩ := bind_ok h
  injection h with _ h; subst h
  exact (must_suf h2).1.trans (name_suf h1).1
theorem assign_ne : sAssign L ts ≠ .out := fun h => by
  unfold sAssign at h
  rcases bind_out h with h | ⟨_, _, _, h⟩
  · exact name_ne h
  rcases bind_out h with h | ⟨_, _, _, h⟩
  · exact must_ne h
  rcases bind_out h with h | ⟨_, _, _, h⟩
  · exact eX_ne h
  rcases bind_out h with h | ⟨_, _, _, h⟩
  · exact must_ne h
  · cases h
theorem assign_suf {v : r02_Stmt} (h : sAssign L ts = .ok v r) : r <:+ ts ∧ r.length < ts.length := by
  unfold sAssign at h
  obtain ⟨_, r1, h1, h⟩ := bind_ok h
  obtain ⟨_, r2, h2, h⟩ := bind_ok h
  obtain ⟨_, r3, h3, h⟩ := bind_ok h
  obtain ⟨_, r4, h4, h⟩ := bind_ok h
  injection h with _ h; subst h
  have q1 := name_suf h1
  have q := (must_suf h4).1.trans ((eX_suf h3).trans (must_suf h2).1)
  exact ⟨q.trans q1.1, by have := q.length_le; omega⟩
end
/-! ### The program's -/
theorem whichC_e {a : parse_reader} (h : a.f_e ≠ 0) : parse_reader_which a [(ByteArray.mk #[61, 61]), (ByteArray.mk #[33, 61]), (ByteArray.mk #[60]), (ByteArray.mk #[60, 61]), (ByteArray.mk #[62]), (ByteArray.mk #[62, 61])] = some (a, -1) := which_e h _ (by decide)
instance : Inhabited parse_reader := ⟨⟨[], 0, 0, 0, 0, 0⟩⟩
instance : Inhabited ast_Expr := ⟨zA⟩
instance : Inhabited ast_Cond := ⟨⟨0, zA, zA⟩⟩
def zCA : ast_Cond := ⟨0, zA, zA⟩
def zSA : ast_Stmt := .mk 0 nB nB zA zCA [] [] []
instance : Inhabited ast_Stmt := ⟨zSA⟩
instance : Inhabited ByteArray := ⟨nB⟩
theorem her_get {ρ : Type} [Inhabited ρ] {P : ρ → Prop} {x : Nat → Option ρ} {H : Nat} (e : ∀ n, x n = some ((x 0).getD default)) (p : P ((x 0).getD default)) : ∃ r, P r ∧ ∀ n, Sn n H (x n) r := ⟨_, p, fun n => .inl (e n)⟩
theorem neg1 : decide ((-1 : Int) < 0) = true := rfl
theorem expr_T {L i : Int} {ts : List Tok} {H : Nat} (hl : ts.length ≤ 2000) : TP L 0 i Prod.fst mkE H (fun _ => parse_reader_expr (PS L ts 0 i)) (eX L ts) :=
  ((px L i _).exp 0 ts (by omega) hl).unf.mono (Nat.zero_le _)
theorem cond_e {a : parse_reader} (h : a.f_e ≠ 0) : parse_reader_cond a = some (a, ⟨0, vA, zA⟩) := by
  unfold parse_reader_cond
  simp only [must_e h, expr_e h, whichC_e h, fail_e h, Option.bind_eq_bind, Option.bind_some, neg1, if_true]
  rfl
abbrev mkC : r02_Cond → parse_reader → parse_reader × ast_Cond := fun v a => (a, cC v)
theorem len_le {r ts : List Tok} (h : r <:+ ts) (hl : ts.length ≤ 2000) : r.length ≤ 2000 := by have := h.length_le; omega
theorem cond_T {L i : Int} {ts : List Tok} {H : Nat} (hl : ts.length ≤ 2000) : TP L 0 i Prod.fst mkC H (fun _ => parse_reader_cond (PS L ts 0 i)) (sCond L ts) := by
  unfold sCond parse_reader_cond
  refine TP.bind (π' := Prod.fst) (mk' := mkC) (must_T hl _) (fun _ r1 h1 => ?_) (fun r c p hc he => her_get (fun n => by have h : r.f_e ≠ 0 := ep_ne hc he; simp only [must_e h, name_e h, num_e h, expr_e h, cond_e h, whichC_e h, skip_e h, sees_e h, of_e h, fail_e h, Option.bind_eq_bind, Option.bind_some, Option.getD_some, neg1, if_true]) (by have h : r.f_e ≠ 0 := ep_ne hc he; simp only [must_e h, name_e h, num_e h, expr_e h, cond_e h, whichC_e h, skip_e h, sees_e h, of_e h, fail_e h, Option.bind_eq_bind, Option.bind_some, Option.getD_some, neg1, if_true]; exact ⟨he.1, he.2⟩))
  have l1 := len_le (must_suf h1).1 hl
  refine TP.bind (π' := Prod.fst) (mk' := mkC) (expr_T l1) (fun l r2 h2 => ?_) (fun r c p hc he => her_get (fun n => by have h : r.1.f_e ≠ 0 := ep_ne hc he; simp only [must_e h, name_e h, num_e h, expr_e h, cond_e h, whichC_e h, skip_e h, sees_e h, of_e h, fail_e h, Option.bind_eq_bind, Option.bind_some, Option.getD_some, neg1, if_true]) (by have h : r.1.f_e ≠ 0 := ep_ne hc he; simp only [must_e h, name_e h, num_e h, expr_e h, cond_e h, whichC_e h, skip_e h, sees_e h, of_e h, fail_e h, Option.bind_eq_bind, Option.bind_some, Option.getD_some, neg1, if_true]; exact ⟨he.1, he.2⟩))
  have l2 := len_le (eX_suf h2) l1
  have hw := which_P (L := L) (d := 0) (i := i) l2 cmpS (by decide)
  cases hs : sWhich cmpS r2 with
  | none =>
    rw [hs] at hw
    refine TP.err (r := ((⟨r2.map tokT, L, 5, sAt L r2, 0, i⟩ : parse_reader), ⟨0, cE l, zA⟩)) (fun n => ?_) (by decide) ⟨rfl, rfl⟩
    show (parse_reader_which (PS L r2 0 i) cmpS).bind _ = _
    rw [hw]
    simp only [Option.bind_some, neg1, if_true, fail_P, Option.bind_eq_bind]
    rfl
  | some j =>
    rw [hs] at hw
    have hj := (which_pos hs).2
    have hj : j < 6 := hj
    have q1 : decide (((j : Nat) : Int) < 0) = false := by simp
    have q2 : IntKind.i64.wrap (1 + (j : Int)) = 1 + (j : Int) := w64 (by omega) (by omega)
    have l3 : r2.tail.length ≤ 2000 := by have := (which_pos hs).1; omega
    refine TP.eq (y := fun _ => parse_reader_expr (PS L r2.tail 0 i) >>= fun v5 => parse_reader_must v5.1 (ByteArray.mk #[41]) >>= fun v6 => some (v6, (ast_Cond.mk (1 + (j : Int)) (cE l) v5.2))) ?_ (fun n => by
      show (parse_reader_which (PS L r2 0 i) cmpS).bind _ = _
      rw [hw]
      simp only [Option.bind_some, q1, Bool.false_eq_true, if_false, q2])
    refine TP.bind (π' := Prod.fst) (mk' := mkC) (expr_T l3) (fun e r3 h3 => ?_) (fun r c p hc he => her_get (fun n => by have h : r.1.f_e ≠ 0 := ep_ne hc he; simp only [must_e h, name_e h, num_e h, expr_e h, cond_e h, whichC_e h, skip_e h, sees_e h, of_e h, fail_e h, Option.bind_eq_bind, Option.bind_some, Option.getD_some, neg1, if_true]) (by have h : r.1.f_e ≠ 0 := ep_ne hc he; simp only [must_e h, name_e h, num_e h, expr_e h, cond_e h, whichC_e h, skip_e h, sees_e h, of_e h, fail_e h, Option.bind_eq_bind, Option.bind_some, Option.getD_some, neg1, if_true]; exact ⟨he.1, he.2⟩))
    have l4 := len_le (eX_suf h3) l3
    refine TP.bind (π' := Prod.fst) (mk' := mkC) (must_T l4 _) (fun _ r4 h4 => TP.pure (fun n => rfl)) (fun r c p hc he => her_get (fun n => by have h : r.f_e ≠ 0 := ep_ne hc he; simp only [must_e h, name_e h, num_e h, expr_e h, cond_e h, whichC_e h, skip_e h, sees_e h, of_e h, fail_e h, Option.bind_eq_bind, Option.bind_some, Option.getD_some, neg1, if_true]) (by have h : r.f_e ≠ 0 := ep_ne hc he; simp only [must_e h, name_e h, num_e h, expr_e h, cond_e h, whichC_e h, skip_e h, sees_e h, of_e h, fail_e h, Option.bind_eq_bind, Option.bind_some, Option.getD_some, neg1, if_true]; exact ⟨he.1, he.2⟩))
abbrev mkS : r02_Stmt → parse_reader → parse_reader × ast_Stmt := fun v a => (a, cS v)
theorem cZ : cE zE = zA := by simp only [zE, cE, cEs]; rfl
theorem cZC : cC zC = zCA := by unfold cC zC zCA; simp only [cZ]
theorem send_T {L i : Int} {ts : List Tok} {H : Nat} (hl : ts.length ≤ 2000) : TP L 0 i Prod.fst mkS H (fun _ => parse_reader_send (PS L ts 0 i)) (sSend L ts) := by
  unfold sSend parse_reader_send
  refine TP.bind (π' := Prod.fst) (mk' := mkS) (name_T hl) (fun n r1 h1 => ?_) (fun r c p hc he => her_get (fun n => by have h : r.1.f_e ≠ 0 := ep_ne hc he; simp only [must_e h, name_e h, num_e h, expr_e h, cond_e h, whichC_e h, skip_e h, sees_e h, of_e h, fail_e h, Option.bind_eq_bind, Option.bind_some, Option.getD_some, neg1, if_true]) (by have h : r.1.f_e ≠ 0 := ep_ne hc he; simp only [must_e h, name_e h, num_e h, expr_e h, cond_e h, whichC_e h, skip_e h, sees_e h, of_e h, fail_e h, Option.bind_eq_bind, Option.bind_some, Option.getD_some, neg1, if_true]; exact ⟨he.1, he.2⟩))
  have l1 := len_le (name_suf h1).1 hl
  refine TP.bind (π' := Prod.fst) (mk' := mkS) (must_T l1 _) (fun _ r2 h2 => ?_) (fun r c p hc he => her_get (fun n => by have h : r.f_e ≠ 0 := ep_ne hc he; simp only [must_e h, name_e h, num_e h, expr_e h, cond_e h, whichC_e h, skip_e h, sees_e h, of_e h, fail_e h, Option.bind_eq_bind, Option.bind_some, Option.getD_some, neg1, if_true]) (by have h : r.f_e ≠ 0 := ep_ne hc he; simp only [must_e h, name_e h, num_e h, expr_e h, cond_e h, whichC_e h, skip_e h, sees_e h, of_e h, fail_e h, Option.bind_eq_bind, Option.bind_some, Option.getD_some, neg1, if_true]; exact ⟨he.1, he.2⟩))
  have l2 := len_le (must_suf h2).1 l1
  refine TP.bind (π' := Prod.fst) (mk' := mkS) (name_T l2) (fun t r3 h3 => ?_) (fun r c p hc he => her_get (fun n => by have h : r.1.f_e ≠ 0 := ep_ne hc he; simp only [must_e h, name_e h, num_e h, expr_e h, cond_e h, whichC_e h, skip_e h, sees_e h, of_e h, fail_e h, Option.bind_eq_bind, Option.bind_some, Option.getD_some, neg1, if_true]) (by have h : r.1.f_e ≠ 0 := ep_ne hc he; simp only [must_e h, name_e h, num_e h, expr_e h, cond_e h, whichC_e h, skip_e h, sees_e h, of_e h, fail_e h, Option.bind_eq_bind, Option.bind_some, Option.getD_some, neg1, if_true]; exact ⟨he.1, he.2⟩))
  have l3 := len_le (name_suf h3).1 l2
  refine TP.bind (π' := Prod.fst) (mk' := mkS) (must_T l3 _) (fun _ r4 h4 => ?_) (fun r c p hc he => her_get (fun n => by have h : r.f_e ≠ 0 := ep_ne hc he; simp only [must_e h, name_e h, num_e h, expr_e h, cond_e h, whichC_e h, skip_e h, sees_e h, of_e h, fail_e h, Option.bind_eq_bind, Option.bind_some, Option.getD_some, neg1, if_true]) (by have h : r.f_e ≠ 0 := ep_ne hc he; simp only [must_e h, name_e h, num_e h, expr_e h, cond_e h, whichC_e h, skip_e h, sees_e h, of_e h, fail_e h, Option.bind_eq_bind, Option.bind_some, Option.getD_some, neg1, if_true]; exact ⟨he.1, he.2⟩))
  have l4 := len_le (must_suf h4).1 l3
  refine TP.bind (π' := Prod.fst) (mk' := mkS) (expr_T l4) (fun e r5 h5 => ?_) (fun r c p hc he => her_get (fun n => by have h : r.1.f_e ≠ 0 := ep_ne hc he; simp only [must_e h, name_e h, num_e h, expr_e h, cond_e h, whichC_e h, skip_e h, sees_e h, of_e h, fail_e h, Option.bind_eq_bind, Option.bind_some, Option.getD_some, neg1, if_true]) (by have h : r.1.f_e ≠ 0 := ep_ne hc he; simp only [must_e h, name_e h, num_e h, expr_e h, cond_e h, whichC_e h, skip_e h, sees_e h, of_e h, fail_e h, Option.bind_eq_bind, Option.bind_some, Option.getD_some, neg1, if_true]; exact ⟨he.1, he.2⟩))
  have l5 := len_le (eX_suf h5) l4
  refine TP.bind (π' := Prod.fst) (mk' := mkS) (must_T l5 _) (fun _ r6 h6 => ?_) (fun r c p hc he => her_get (fun n => by have h : r.f_e ≠ 0 := ep_ne hc he; simp only [must_e h, name_e h, num_e h, expr_e h, cond_e h, whichC_e h, skip_e h, sees_e h, of_e h, fail_e h, Option.bind_eq_bind, Option.bind_some, Option.getD_some, neg1, if_true]) (by have h : r.f_e ≠ 0 := ep_ne hc he; simp only [must_e h, name_e h, num_e h, expr_e h, cond_e h, whichC_e h, skip_e h, sees_e h, of_e h, fail_e h, Option.bind_eq_bind, Option.bind_some, Option.getD_some, neg1, if_true]; exact ⟨he.1, he.2⟩))
  have l6 := len_le (must_suf h6).1 l5
  refine TP.bind (π' := Prod.fst) (mk' := mkS) (must_T l6 _) (fun _ r7 h7 => TP.pure (fun n => ?_)) (fun r c p hc he => her_get (fun n => by have h : r.f_e ≠ 0 := ep_ne hc he; simp only [must_e h, name_e h, num_e h, expr_e h, cond_e h, whichC_e h, skip_e h, sees_e h, of_e h, fail_e h, Option.bind_eq_bind, Option.bind_some, Option.getD_some, neg1, if_true]) (by have h : r.f_e ≠ 0 := ep_ne hc he; simp only [must_e h, name_e h, num_e h, expr_e h, cond_e h, whichC_e h, skip_e h, sees_e h, of_e h, fail_e h, Option.bind_eq_bind, Option.bind_some, Option.getD_some, neg1, if_true]; exact ⟨he.1, he.2⟩))
  simp only [mkS, cS, cZC, cL, cA]
  rfl
theorem assert_T {L i : Int} {ts : List Tok} {H : Nat} (hl : ts.length ≤ 2000) : TP L 0 i Prod.fst mkS H (fun _ => parse_reader_assert (PS L ts 0 i)) (sAssert L ts) := by
  unfold sAssert parse_reader_assert
  refine TP.bind (π' := Prod.fst) (mk' := mkS) (cond_T hl) (fun n r1 h1 => ?_) (fun r c p hc he => her_get (fun n => by have h : r.1.f_e ≠ 0 := ep_ne hc he; simp only [must_e h, name_e h, num_e h, expr_e h, cond_e h, whichC_e h, skip_e h, sees_e h, of_e h, fail_e h, Option.bind_eq_bind, Option.bind_some, Option.getD_some, neg1, if_true]) (by have h : r.1.f_e ≠ 0 := ep_ne hc he; simp only [must_e h, name_e h, num_e h, expr_e h, cond_e h, whichC_e h, skip_e h, sees_e h, of_e h, fail_e h, Option.bind_eq_bind, Option.bind_some, Option.getD_some, neg1, if_true]; exact ⟨he.1, he.2⟩))
  have l1 := len_le (cond_suf h1).1 hl
  refine TP.bind (π' := Prod.fst) (mk' := mkS) (must_T l1 _) (fun _ r2 h2 => TP.pure (fun n => ?_)) (fun r c p hc he => her_get (fun n => by have h : r.f_e ≠ 0 := ep_ne hc he; simp only [must_e h, name_e h, num_e h, expr_e h, cond_e h, whichC_e h, skip_e h, sees_e h, of_e h, fail_e h, Option.bind_eq_bind, Option.bind_some, Option.getD_some, neg1, if_true]) (by have h : r.f_e ≠ 0 := ep_ne hc he; simp only [must_e h, name_e h, num_e h, expr_e h, cond_e h, whichC_e h, skip_e h, sees_e h, of_e h, fail_e h, Option.bind_eq_bind, Option.bind_some, Option.getD_some, neg1, if_true]; exact ⟨he.1, he.2⟩))
  simp only [mkS, cS, cZ, cL, cA]
  rfl
theorem input_T {L i : Int} {ts : List Tok} {H : Nat} (hl : ts.length ≤ 2000) : TP L 0 i Prod.fst mkS H (fun _ => parse_reader_input (PS L ts 0 i)) (sInput L ts) := by
  unfold sInput parse_reader_input
  refine TP.bind (π' := Prod.fst) (mk' := mkS) (name_T hl) (fun n r1 h1 => ?_) (fun r c p hc he => her_get (fun n => by have h : r.1.f_e ≠ 0 := ep_ne hc he; simp only [must_e h, name_e h, num_e h, expr_e h, cond_e h, whichC_e h, skip_e h, sees_e h, of_e h, fail_e h, Option.bind_eq_bind, Option.bind_some, Option.getD_some, neg1, if_true]) (by have h : r.1.f_e ≠ 0 := ep_ne hc he; simp only [must_e h, name_e h, num_e h, expr_e h, cond_e h, whichC_e h, skip_e h, sees_e h, of_e h, fail_e h, Option.bind_eq_bind, Option.bind_some, Option.getD_some, neg1, if_true]; exact ⟨he.1, he.2⟩))
  have l1 := len_le (name_suf h1).1 hl
  refine TP.bind (π' := Prod.fst) (mk' := mkS) (must_T l1 _) (fun _ r2 h2 => TP.pure (fun n => ?_)) (fun r c p hc he => her_get (fun n => by have h : r.f_e ≠ 0 := ep_ne hc he; simp only [must_e h, name_e h, num_e h, expr_e h, cond_e h, whichC_e h, skip_e h, sees_e h, of_e h, fail_e h, Option.bind_eq_bind, Option.bind_some, Option.getD_some, neg1, if_true]) (by have h : r.f_e ≠ 0 := ep_ne hc he; simp only [must_e h, name_e h, num_e h, expr_e h, cond_e h, whichC_e h, skip_e h, sees_e h, of_e h, fail_e h, Option.bind_eq_bind, Option.bind_some, Option.getD_some, neg1, if_true]; exact ⟨he.1, he.2⟩))
  simp only [mkS, cS, cZ, cZC, cL, cA]
  rfl
theorem assign_T {L i : Int} {ts : List Tok} {H : Nat} (hl : ts.length ≤ 2000) : TP L 0 i Prod.fst mkS H (fun _ => parse_reader_assign (PS L ts 0 i)) (sAssign L ts) := by
  unfold sAssign parse_reader_assign
  refine TP.bind (π' := Prod.fst) (mk' := mkS) (name_T hl) (fun n r1 h1 => ?_) (fun r c p hc he => her_get (fun n => by have h : r.1.f_e ≠ 0 := ep_ne hc he; simp only [must_e h, name_e h, num_e h, expr_e h, cond_e h, whichC_e h, skip_e h, sees_e h, of_e h, fail_e h, Option.bind_eq_bind, Option.bind_some, Option.getD_some, neg1, if_true]) (by have h : r.1.f_e ≠ 0 := ep_ne hc he; simp only [must_e h, name_e h, num_e h, expr_e h, cond_e h, whichC_e h, skip_e h, sees_e h, of_e h, fail_e h, Option.bind_eq_bind, Option.bind_some, Option.getD_some, neg1, if_true]; exact ⟨he.1, he.2⟩))
  have l1 := len_le (name_suf h1).1 hl
  refine TP.bind (π' := Prod.fst) (mk' := mkS) (must_T l1 _) (fun _ r2 h2 => ?_) (fun r c p hc he => her_get (fun n => by have h : r.f_e ≠ 0 := ep_ne hc he; simp only [must_e h, name_e h, num_e h, expr_e h, cond_e h, whichC_e h, skip_e h, sees_e h, of_e h, fail_e h, Option.bind_eq_bind, Option.bind_some, Option.getD_some, neg1, if_true]) (by have h : r.f_e ≠ 0 := ep_ne hc he; simp only [must_e h, name_e h, num_e h, expr_e h, cond_e h, whichC_e h, skip_e h, sees_e h, of_e h, fail_e h, Option.bind_eq_bind, Option.bind_some, Option.getD_some, neg1, if_true]; exact ⟨he.1, he.2⟩))
  have l2 := len_le (must_suf h2).1 l1
  refine TP.bind (π' := Prod.fst) (mk' := mkS) (expr_T l2) (fun e r3 h3 => ?_) (fun r c p hc he => her_get (fun n => by have h : r.1.f_e ≠ 0 := ep_ne hc he; simp only [must_e h, name_e h, num_e h, expr_e h, cond_e h, whichC_e h, skip_e h, sees_e h, of_e h, fail_e h, Option.bind_eq_bind, Option.bind_some, Option.getD_some, neg1, if_true]) (by have h : r.1.f_e ≠ 0 := ep_ne hc he; simp only [must_e h, name_e h, num_e h, expr_e h, cond_e h, whichC_e h, skip_e h, sees_e h, of_e h, fail_e h, Option.bind_eq_bind, Option.bind_some, Option.getD_some, neg1, if_true]; exact ⟨he.1, he.2⟩))
  have l3 := len_le (eX_suf h3) l2
  refine TP.bind (π' := Prod.fst) (mk' := mkS) (must_T l3 _) (fun _ r4 h4 => TP.pure (fun n => ?_)) (fun r c p hc he => her_get (fun n => by have h : r.f_e ≠ 0 := ep_ne hc he; simp only [must_e h, name_e h, num_e h, expr_e h, cond_e h, whichC_e h, skip_e h, sees_e h, of_e h, fail_e h, Option.bind_eq_bind, Option.bind_some, Option.getD_some, neg1, if_true]) (by have h : r.f_e ≠ 0 := ep_ne hc he; simp only [must_e h, name_e h, num_e h, expr_e h, cond_e h, whichC_e h, skip_e h, sees_e h, of_e h, fail_e h, Option.bind_eq_bind, Option.bind_some, Option.getD_some, neg1, if_true]; exact ⟨he.1, he.2⟩))
  simp only [mkS, cS, cZC, cL, cA]
  rfl
section
variable {a : parse_reader} (h : a.f_e ≠ 0)
include h
end
end Go.Proofs.YtokjbpmjdcbogaaGreatDoor.Abs.Par
/- The program's reader reads statements as parsing does. -/
namespace Go.Proofs.YtokjbpmjdcbogaaGreatDoor.Abs.Par
open Go Go.RowKit Wri
set_option linter.unusedVariables false
set_option linter.unusedSimpArgs false
/-! ### What statements are -/
section
variable (L : Int)
mutual
def sStmts : Nat → Nat → List Tok → Rs (List r02_Stmt)
  | 0, _, _ => .out
  | f + 1, i, ts => match sStmt f i ts with
    | none => .ok [] ts
    | some o => o.bind fun s r => (sStmts f i r).bind fun l r' => .ok (s :: l) r'
def sStmt : Nat → Nat → List Tok → Option (Rs r02_Stmt)
  | 0, _, _ => some .out
  | f + 1, i, ts =>
    if sSees (ByteArray.mk #[105, 102]) ts then some ((sCond L ts.tail).bind fun c r1 => (sBlock f i r1).bind fun b r2 =>
      if sSees (ByteArray.mk #[101, 108, 115, 101]) r2 then (sBlock f i r2.tail).bind fun l r3 => .ok (.mk 2 nB nB zE c b l []) r3 else .ok (.mk 2 nB nB zE c b [] []) r2)
    else if sSees (ByteArray.mk #[119, 104, 105, 108, 101]) ts then some ((sCond L ts.tail).bind fun c r1 => (sBlock f i r1).bind fun b r2 => .ok (.mk 3 nB nB zE c b [] []) r2)
    else if sSees (ByteArray.mk #[115, 101, 110, 100]) ts then some (sSend L ts.tail)
    else if sSees (ByteArray.mk #[114, 101, 99, 118]) ts then some ((sName L ts.tail).bind fun n r1 => (sMust L (ByteArray.mk #[123]) r1).bind fun _ r2 => (sArm f i r2).bind fun a r3 => (sArms f i r3).bind fun l r4 =>
      (sMust L (ByteArray.mk #[125]) r4).bind fun _ r5 => .ok (.mk 5 n nB zE zC [] [] (a :: l)) r5)
    else if sSees (ByteArray.mk #[97, 115, 115, 101, 114, 116]) ts then some (sAssert L ts.tail)
    else if sSees (ByteArray.mk #[105, 110, 112, 117, 116]) ts then some (sInput L ts.tail)
    else if sOf 1 ts then some (sAssign L ts)
    else none
def sArm : Nat → Nat → List Tok → Rs r02_Arm
  | 0, _, _ => .out
  | f + 1, i, ts => (sName L ts).bind fun t r1 => (sMust L (ByteArray.mk #[40]) r1).bind fun _ r2 => (sName L r2).bind fun v r3 => (sMust L (ByteArray.mk #[41]) r3).bind fun _ r4 => (sBlock f i r4).bind fun b r5 => .ok (.mk t v b) r5
def sArms : Nat → Nat → List Tok → Rs (List r02_Arm)
  | 0, _, _ => .out
  | f + 1, i, ts => if sSees (ByteArray.mk #[125]) ts then .ok [] ts else (sArm f i ts).bind fun a r => (sArms f i r).bind fun l r' => .ok (a :: l) r'
def sBlock : Nat → Nat → List Tok → Rs (List r02_Stmt)
  | 0, _, _ => .out
  | f + 1, i, ts => if sSees (ByteArray.mk #[123]) ts && decide (i = 24) then .er 6 (sAt L ts)
    else (sMust L (ByteArray.mk #[123]) ts).bind fun _ r1 => (sStmts f (i + 1) r1).bind fun b r2 => (sMust L (ByteArray.mk #[125]) r2).bind fun _ r3 => .ok b r3
end
end
structure SufS (L : Int) (f : Nat) : Prop where
  stmts : ∀ i ts v r, sStmts L f i ts = .ok v r → r <:+ ts
  stmt : ∀ i ts v r, sStmt L f i ts = some (.ok v r) → r <:+ ts ∧ r.length < ts.length
  arm : ∀ i ts v r, sArm L f i ts = .ok v r → r <:+ ts ∧ r.length < ts.length
  arms : ∀ i ts v r, sArms L f i ts = .ok v r → r <:+ ts
  block : ∀ i ts v r, sBlock L f i ts = .ok v r → r <:+ ts
theorem pos_suf {r s ts : List Tok} (h : r <:+ s) (q : s <:+ ts) (w : s.length < ts.length) : r <:+ ts ∧ r.length < ts.length := ⟨h.trans q, by have := h.length_le; omega⟩
theorem sees_suf {w : ByteArray} {r ts : List Tok} (h : sSees w ts = true) (q : r <:+ ts.tail) : r <:+ ts ∧ r.length < ts.length := pos_suf q (List.tail_suffix ts) (sees_pos h)
theorem sufS (L : Int) : ∀ f, SufS L f := by
  intro f
  induction f with
  | zero => exact ⟨fun i ts v r h => by simp [sStmts] at h, fun i ts v r h => by simp [sStmt] at h, fun i ts v r h => by simp [sArm] at h, fun i ts v r h => by simp [sArms] at h, fun i ts v r h => by simp [sBlock] at h⟩
  | succ f ih =>
    refine ⟨fun i ts v r h => ?_, fun i ts v r h => ?_, fun i ts v r h => ?_, fun i ts v r h => ?_, fun i ts v r h => ?_⟩
    · simp only [sStmts] at h
      split at h
      · injection h with _ h; subst h; exact List.suffix_refl _
      · rename_i o ho
        obtain ⟨s, r1, h1, h⟩ := bind_ok h
        obtain ⟨l, r2, h2, h⟩ := bind_ok h
        injection h with _ h; subst h
        subst h1
        exact (ih.stmts _ _ _ _ h2).trans (ih.stmt _ _ _ _ ho).1
    · simp only [sStmt] at h
      split at h
      · rename_i hs
        injection h with h
        obtain ⟨c, r1, h1, h⟩ := bind_ok h
        obtain ⟨b, r2, h2, h⟩ := bind_ok h
        have q := (ih.block _ _ _ _ h2).trans (cond_suf h1).1
        split at h
        · obtain ⟨l, r3, h3, h⟩ := bind_ok h
          injection h with _ h; subst h
          exact sees_suf hs ((ih.block _ _ _ _ h3).trans ((List.tail_suffix r2).trans q))
        · injection h with _ h; subst h
          exact sees_suf hs q
      split at h
      · rename_i hs
        injection h with h
        obtain ⟨c, r1, h1, h⟩ := bind_ok h
        obtain ⟨b, r2, h2, h⟩ := bind_ok h
        injection h with _ h; subst h
        exact sees_suf hs ((ih.block _ _ _ _ h2).trans (cond_suf h1).1)
      split at h
      · rename_i hs
        injection h with h
        exact sees_suf hs (send_suf h)
      split at h
      · rename_i hs
        injection h with h
        obtain ⟨n, r1, h1, h⟩ := bind_ok h
        obtain ⟨_, r2, h2, h⟩ := bind_ok h
        obtain ⟨a, r3, h3, h⟩ := bind_ok h
        obtain ⟨l, r4, h4, h⟩ := bind_ok h
        obtain ⟨_, r5, h5, h⟩ := bind_ok h
        injection h with _ h; subst h
        exact sees_suf hs ((must_suf h5).1.trans ((ih.arms _ _ _ _ h4).trans ((ih.arm _ _ _ _ h3).1.trans ((must_suf h2).1.trans (name_suf h1).1))))
      split at h
      · rename_i hs
        injection h with h
        exact sees_suf hs (assert_suf h)
      split at h
      · rename_i hs
        injection h with h
        exact sees_suf hs (input_suf h)
      split at h
      · injection h with h
        exact assign_suf h
      · cases h
    · simp only [sArm] at h
      obtain ⟨n, r1, h1, h⟩ := bind_ok h
      obtain ⟨_, r2, h2, h⟩ := bind_ok h
      obtain ⟨a, r3, h3, h⟩ := bind_ok h
      obtain ⟨_, r4, h4, h⟩ := bind_ok h
      obtain ⟨b, r5, h5, h⟩ := bind_ok h
      injection h with _ h; subst h
      have q := name_suf h1
      exact pos_suf ((ih.block _ _ _ _ h5).trans ((must_suf h4).1.trans ((name_suf h3).1.trans (must_suf h2).1))) q.1 q.2
    · simp only [sArms] at h
      split at h
      · injection h with _ h; subst h; exact List.suffix_refl _
      · obtain ⟨s, r1, h1, h⟩ := bind_ok h
        obtain ⟨l, r2, h2, h⟩ := bind_ok h
        injection h with _ h; subst h
        exact (ih.arms _ _ _ _ h2).trans (ih.arm _ _ _ _ h1).1
    · simp only [sBlock] at h
      split at h
      · cases h
      · obtain ⟨_, r1, h1, h⟩ := bind_ok h
        obtain ⟨b, r2, h2, h⟩ := bind_ok h
        obtain ⟨_, r3, h3, h⟩ := bind_ok h
        injection h with _ h; subst h
        exact (must_suf h3).1.trans ((ih.stmts _ _ _ _ h2).trans (must_suf h1).1)
structure FuS (L : Int) (f : Nat) : Prop where
  stmts : ∀ i ts, 3 * ts.length + 2 ≤ f → sStmts L f i ts ≠ .out
  stmt : ∀ i ts, 3 * ts.length + 1 ≤ f → sStmt L f i ts ≠ some .out
  arm : ∀ i ts, 3 * ts.length + 1 ≤ f → sArm L f i ts ≠ .out
  arms : ∀ i ts, 3 * ts.length + 2 ≤ f → sArms L f i ts ≠ .out
  block : ∀ i ts, 3 * ts.length + 1 ≤ f → sBlock L f i ts ≠ .out
theorem fuS (L : Int) : ∀ f, FuS L f := by
  intro f
  induction f with
  | zero => exact ⟨fun i ts h => by omega, fun i ts h => by omega, fun i ts h => by omega, fun i ts h => by omega, fun i ts h => by omega⟩
  | succ f ih =>
    have sf := sufS L f
    refine ⟨fun i ts hf h => ?_, fun i ts hf h => ?_, fun i ts hf h => ?_, fun i ts hf h => ?_, fun i ts hf h => ?_⟩
    · simp only [sStmts] at h
      split at h
      · cases h
      · rename_i o ho
        rcases bind_out h with h0 | ⟨s, r1, h1, h0⟩
        · subst h0; exact ih.stmt _ _ (by omega) ho
        · subst h1
          have := (sf.stmt _ _ _ _ ho).2
          rcases bind_out h0 with h2 | ⟨l, r2, h2, h3⟩
          · exact ih.stmts _ _ (by omega) h2
          · cases h3
    · simp only [sStmt] at h
      split at h
      · rename_i hs
        have := sees_pos hs
        injection h with h
        rcases bind_out h with h | ⟨c, r1, h1, h⟩
        · exact cond_ne h
        have q1 := (cond_suf h1).1.length_le
        rcases bind_out h with h | ⟨b, r2, h2, h⟩
        · exact ih.block _ _ (by omega) h
        have q2 := (sf.block _ _ _ _ h2).length_le
        split at h
        · rename_i he
          have := sees_pos he
          rcases bind_out h with h | ⟨l, r3, h3, h⟩
          · exact ih.block _ _ (by omega) h
          · cases h
        · cases h
      split at h
      · rename_i hs
        have := sees_pos hs
        injection h with h
        rcases bind_out h with h | ⟨c, r1, h1, h⟩
        · exact cond_ne h
        have q1 := (cond_suf h1).1.length_le
        rcases bind_out h with h | ⟨b, r2, h2, h⟩
        · exact ih.block _ _ (by omega) h
        · cases h
      split at h
      · injection h with h; exact send_ne h
      split at h
      · rename_i hs
        have := sees_pos hs
        injection h with h
        rcases bind_out h with h | ⟨n, r1, h1, h⟩
        · exact name_ne h
        have q1 := (name_suf h1).2
        rcases bind_out h with h | ⟨_, r2, h2, h⟩
        · exact must_ne h
        have q2 := (must_suf h2).2
        rcases bind_out h with h | ⟨a, r3, h3, h⟩
        · exact ih.arm _ _ (by omega) h
        have q3 := (sf.arm _ _ _ _ h3).2
        rcases bind_out h with h | ⟨l, r4, h4, h⟩
        · exact ih.arms _ _ (by omega) h
        rcases bind_out h with h | ⟨_, r5, h5, h⟩
        · exact must_ne h
        · cases h
      split at h
      · injection h with h; exact assert_ne h
      split at h
      · injection h with h; exact input_ne h
      split at h
      · injection h with h; exact assign_ne h
      · cases h
    · simp only [sArm] at h
      rcases bind_out h with h | ⟨t, r1, h1, h⟩
      · exact name_ne h
      have q1 := (name_suf h1).2
      rcases bind_out h with h | ⟨_, r2, h2, h⟩
      · exact must_ne h
      have q2 := (must_suf h2).2
      rcases bind_out h with h | ⟨v, r3, h3, h⟩
      · exact name_ne h
      have q3 := (name_suf h3).2
      rcases bind_out h with h | ⟨_, r4, h4, h⟩
      · exact must_ne h
      have q4 := (must_suf h4).2
      rcases bind_out h with h | ⟨b, r5, h5, h⟩
      · exact ih.block _ _ (by omega) h
      · cases h
    · simp only [sArms] at h
      split at h
      · cases h
      · rcases bind_out h with h | ⟨a, r1, h1, h⟩
        · exact ih.arm _ _ (by omega) h
        have q1 := (sf.arm _ _ _ _ h1).2
        rcases bind_out h with h | ⟨l, r2, h2, h⟩
        · exact ih.arms _ _ (by omega) h
        · cases h
    · simp only [sBlock] at h
      split at h
      · cases h
      · rcases bind_out h with h | ⟨_, r1, h1, h⟩
        · exact must_ne h
        have q1 := (must_suf h1).2
        rcases bind_out h with h | ⟨b, r2, h2, h⟩
        · exact ih.stmts _ _ (by omega) h
        rcases bind_out h with h | ⟨_, r3, h3, h⟩
        · exact must_ne h
        · cases h
/-! ### The program's loops -/
abbrev S7 := List lex_Token × Int × Int × Int × Int × Int × List ast_Stmt
abbrev A7 := List lex_Token × Int × Int × Int × Int × Int × List ast_Arm
def tpS (a : parse_reader) (l : List ast_Stmt) : S7 := (a.f_l, a.f_end, a.f_e, a.f_at, a.f_deep, a.f_in, l)
def tpA (a : parse_reader) (l : List ast_Arm) : A7 := (a.f_l, a.f_end, a.f_e, a.f_at, a.f_deep, a.f_in, l)
noncomputable def SB (n : Nat) := parse_reader_stmts_l1 (parse_reader_stmtsN n) (parse_reader_stmtN n) (parse_reader_conditionalN n) (parse_reader_loopN n) (parse_reader_recvN n) (parse_reader_blockN n) (parse_reader_armN n)
noncomputable def RB (n : Nat) := parse_reader_recv_l1 (parse_reader_stmtsN n) (parse_reader_stmtN n) (parse_reader_conditionalN n) (parse_reader_loopN n) (parse_reader_recvN n) (parse_reader_blockN n) (parse_reader_armN n)
noncomputable def SL (n : Nat) (a : parse_reader) (l : List ast_Stmt) : Option (parse_reader × List ast_Stmt) := iter (SB n) (tpS a l) >>= Sum.elim (fun r => some r) (fun _ => none)
noncomputable def AL (n : Nat) (a : parse_reader) (l : List ast_Arm) : Option (parse_reader × List ast_Arm) := iter (RB n) (tpA a l) >>= Sum.elim (fun _ => none) (fun j1 => some (⟨j1.1, j1.2.1, j1.2.2.1, j1.2.2.2.1, j1.2.2.2.2.1, j1.2.2.2.2.2.1⟩, j1.2.2.2.2.2.2))
theorem SL_eq (n : Nat) (a : parse_reader) (l : List ast_Stmt) : SL n a l = parse_reader_stmtN n a >>= fun v1 => if (!v1.2.2) then some (v1.1, l) else app 288 l [v1.2.1] >>= fun v2 => SL n v1.1 v2 := by
  have hb : SB n (tpS a l) = parse_reader_stmtN n a >>= fun v1 => if (!v1.2.2) then some (.inr (.inl (v1.1, l))) else app 288 l [v1.2.1] >>= fun v2 => some (.inl (tpS v1.1 v2)) := rfl
  unfold SL
  rw [iter_eq, hb]
  simp only [Option.bind_eq_bind, Option.bind_assoc]
  congr 1; funext v1
  cases v1.2.2 with
  | false => rfl
  | true =>
    simp only [Bool.not_true, Bool.false_eq_true, if_false, Option.bind_assoc]
    congr 1
theorem AL_e {a : parse_reader} (h : a.f_e ≠ 0) (n : Nat) (l : List ast_Arm) : AL n a l = some (a, l) := by
  unfold AL
  rw [iter_out (r := .inr (tpA a l)) (by
    unfold RB parse_reader_recv_l1
    rw [if_neg (by simpa [tpA] using h)]
    rfl)]
  rfl
theorem AL_eq {L d i : Int} {ts : List Tok} (n : Nat) (l : List ast_Arm) : AL n (PS L ts d i) l = if sSees (ByteArray.mk #[125]) ts then some (PS L ts d i, l) else parse_reader_armN n (PS L ts d i) >>= fun v => app 56 l [v.2] >>= fun v2 => AL n v.1 v2 := by
  have hb : RB n (tpA (PS L ts d i) l) = if sSees (ByteArray.mk #[125]) ts then some (.inr (.inr (tpA (PS L ts d i) l))) else parse_reader_armN n (PS L ts d i) >>= fun v => app 56 l [v.2] >>= fun v2 => some (.inl (tpA v.1 v2)) := by
    unfold RB parse_reader_recv_l1
    rw [if_pos (by rfl)]
    show ((parse_reader_sees (PS L ts d i) (ByteArray.mk #[125]) >>= fun v5 => some (!v5)) >>= _) = _
    rw [sees_P]
    cases sSees (ByteArray.mk #[125]) ts <;> rfl
  unfold AL
  rw [iter_eq, hb]
  cases sSees (ByteArray.mk #[125]) ts with
  | true => rfl
  | false =>
    simp only [Option.bind_eq_bind, Option.bind_assoc, Bool.false_eq_true, if_false]
    congr 1
/-! ### Errors -/
section
variable {a : parse_reader} (h : a.f_e ≠ 0)
include h
theorem stmt_e (n : Nat) : Sn n 1 (parse_reader_stmtN n a) (a, zSA, false) := by
  cases n with
  | zero => exact .inr ⟨rfl, by omega⟩
  | succ n =>
    refine .inl ?_
    simp only [parse_reader_stmtN, skip_e h, of_e h, Option.bind_eq_bind, Option.bind_some, Bool.false_eq_true, if_false]
    rfl
theorem SL_e (n : Nat) (l : List ast_Stmt) : Sn n 1 (SL n a l) (a, l) := by
  rw [SL_eq]
  exact Sn.bind (f := fun v1 => if (!v1.2.2) then some (v1.1, l) else app 288 l [v1.2.1] >>= fun v2 => SL n v1.1 v2) (stmt_e h n) (.inl rfl)
theorem stmts_e (n : Nat) : Sn n 2 (parse_reader_stmtsN n a) (a, []) := by
  cases n with
  | zero => exact .inr ⟨rfl, by omega⟩
  | succ n => exact (SL_e h n []).up
end
def bE (a : parse_reader) : parse_reader := ⟨a.f_l, a.f_end, a.f_e, a.f_at, a.f_deep, IntKind.i64.wrap (IntKind.i64.wrap (a.f_in + 1) - 1)⟩
section
variable {a : parse_reader} (h : a.f_e ≠ 0)
include h
theorem block_e (n : Nat) : Sn n 3 (parse_reader_blockN n a) (bE a, []) := by
  cases n with
  | zero => exact .inr ⟨rfl, by omega⟩
  | succ n =>
    simp only [parse_reader_blockN, sees_e h, Option.bind_eq_bind, Option.bind_some, Bool.false_eq_true, if_false, must_e h]
    refine (Sn.bind (f := fun v4 : parse_reader × List ast_Stmt => (parse_reader_must (parse_reader.mk v4.1.f_l v4.1.f_end v4.1.f_e v4.1.f_at v4.1.f_deep (IntKind.i64.wrap (v4.1.f_in - 1))) (ByteArray.mk #[125])).bind fun v5 => some (v5, v4.2)) (stmts_e (a := ⟨a.f_l, a.f_end, a.f_e, a.f_at, a.f_deep, IntKind.i64.wrap (a.f_in + 1)⟩) h n) (.inl ?_)).up
    show (parse_reader_must (bE a) (ByteArray.mk #[125])).bind _ = _
    rw [must_e (a := bE a) h]; rfl
theorem arm_e (n : Nat) : Sn n 4 (parse_reader_armN n a) (bE a, .mk nB nB []) := by
  cases n with
  | zero => exact .inr ⟨rfl, by omega⟩
  | succ n =>
    simp only [parse_reader_armN, name_e h, must_e h, Option.bind_eq_bind, Option.bind_some]
    exact (Sn.bind (f := fun v5 : parse_reader × List ast_Stmt => some (v5.1, ast_Arm.mk (ByteArray.mk #[]) (ByteArray.mk #[]) v5.2)) (block_e h n) (.inl rfl)).up
end
/-! ### The program's statements -/
def TS (L i : Int) (H : Nat) (x : Nat → Option (parse_reader × ast_Stmt × Bool)) (ts : List Tok) : Option (Rs r02_Stmt) → Prop
  | none => ∀ n, Sn n H (x n) (PS L ts 0 i, zSA, false)
  | some o => TP L 0 i Prod.fst (fun v a => (a, cS v, true)) H x o
structure PT (L : Int) (f : Nat) : Prop where
  stmts : ∀ (i : Nat) ts acc, i ≤ 24 → ts.length ≤ 2000 → acc.length + ts.length ≤ 2000 → TP L 0 i Prod.fst (fun v a => (a, acc ++ cL v)) (2 * f + 6) (fun n => SL n (PS L ts 0 i) acc) (sStmts L f i ts)
  stmt : ∀ (i : Nat) ts, i ≤ 24 → ts.length ≤ 2000 → TS L i (2 * f + 6) (fun n => parse_reader_stmtN n (PS L ts 0 i)) ts (sStmt L f i ts)
  arm : ∀ (i : Nat) ts, i ≤ 24 → ts.length ≤ 2000 → TP L 0 i Prod.fst (fun v a => (a, cArm v)) (2 * f + 6) (fun n => parse_reader_armN n (PS L ts 0 i)) (sArm L f i ts)
  arms : ∀ (i : Nat) ts acc, i ≤ 24 → ts.length ≤ 2000 → acc.length + ts.length ≤ 2000 → TP L 0 i Prod.fst (fun v a => (a, acc ++ cA v)) (2 * f + 6) (fun n => AL n (PS L ts 0 i) acc) (sArms L f i ts)
  block : ∀ (i : Nat) ts, i ≤ 24 → ts.length ≤ 2000 → TP L 0 i Prod.fst (fun v a => (a, cL v)) (2 * f + 6) (fun n => parse_reader_blockN n (PS L ts 0 i)) (sBlock L f i ts)
theorem TP.map {ρ β γ : Type} {L d i : Int} {π : ρ → parse_reader} {mk : β → parse_reader → ρ} {mk' : γ → parse_reader → ρ} {H : Nat} {x : Nat → Option ρ} {o : Rs β} {g : β → γ}
    (h : TP L d i π mk H x o) (e : ∀ v a, mk v a = mk' (g v) a) : TP L d i π mk' H x (o.bind fun v r => .ok (g v) r) := by
  intro hne
  cases o with
  | ok v ts =>
    obtain ⟨r, hr, hs⟩ := h (by simp)
    exact ⟨r, Eq.trans hr (e v _), hs⟩
  | er c p => exact h (by simp)
  | out => exact absurd rfl hne
theorem cA_one (x : r02_Arm) (l : List r02_Arm) : cA (x :: l) = cArm x :: cA l := by cases x; rfl
abbrev mkL : List r02_Stmt → parse_reader → parse_reader × List ast_Stmt := fun v a => (a, cL v)
abbrev mkT : r02_Stmt → parse_reader → parse_reader × ast_Stmt × Bool := fun v a => (a, cS v, true)
theorem flag_T {L i : Int} {H : Nat} {x : Nat → Option (parse_reader × ast_Stmt)} {o : Rs r02_Stmt} (h : TP L 0 i Prod.fst mkS H x o) : TP L 0 i Prod.fst mkT H (fun n => x n >>= fun v => some (v.1, v.2, true)) o := by
  intro hne
  obtain ⟨r, g, s⟩ := h hne
  refine ⟨(r.1, r.2, true), ?_, fun n => Sn.bind (f := fun v => some (v.1, v.2, true)) (s n) (.inl rfl)⟩
  cases o with
  | ok v ts => have g : r = mkS v (PS L ts 0 i) := g; subst g; rfl
  | er c p => exact g
  | out => exact absurd rfl hne
theorem pt (L : Int) : ∀ f, PT L f := by
  intro f
  induction f with
  | zero => exact ⟨fun i ts acc _ _ _ => by simp only [sStmts]; exact tp_out, fun i ts _ _ => by simp only [sStmt]; exact tp_out, fun i ts _ _ => by simp only [sArm]; exact tp_out, fun i ts acc _ _ _ => by simp only [sArms]; exact tp_out, fun i ts _ _ => by simp only [sBlock]; exact tp_out⟩
  | succ f ih =>
    have sf := sufS L f
    refine ⟨fun i ts acc hi hl ha => ?_, fun i ts hi hl => ?_, fun i ts hi hl => ?_, fun i ts acc hi hl ha => ?_, fun i ts hi hl => ?_⟩
    · -- statements
      simp only [sStmts]
      have h1 := ih.stmt i ts hi hl
      refine TP.eq (y := fun n => parse_reader_stmtN n (PS L ts 0 i) >>= fun v1 => if (!v1.2.2) then some (v1.1, acc) else app 288 acc [v1.2.1] >>= fun v2 => SL n v1.1 v2) ?_ (fun n => SL_eq n _ _)
      cases hs : sStmt L f i ts with
      | none =>
        rw [hs] at h1
        have h1 : ∀ n, Sn n (2 * f + 6) (parse_reader_stmtN n (PS L ts 0 i)) (PS L ts 0 i, zSA, false) := h1
        refine fun _ => ⟨(PS L ts 0 i, acc), by simp [GP, cL], fun n => ((h1 n).mono (show 2 * f + 6 ≤ 2 * (f + 1) + 6 by omega)).bind (f := fun v1 => if (!v1.2.2) then some (v1.1, acc) else app 288 acc [v1.2.1] >>= fun v2 => SL n v1.1 v2) (.inl rfl)⟩
      | some o =>
        rw [hs] at h1
        have h1 : TP L 0 i Prod.fst mkT (2 * f + 6) (fun n => parse_reader_stmtN n (PS L ts 0 i)) o := h1
        refine TP.mono (H := 2 * f + 6) ?_ (by omega)
        refine TP.bind (π' := Prod.fst) (mk' := fun v a => (a, acc ++ cL v)) h1 (fun s r ho => ?_) (fun r c p hc he => ?_)
        · subst ho
          have q := sf.stmt _ _ _ _ hs
          have ql := len_le q.1 hl
          refine TP.eq (y := fun n => SL n (PS L r 0 i) (acc ++ [cS s])) ?_ (fun n => ?_)
          · refine TP.map (g := fun l => s :: l) (ih.stmts i r (acc ++ [cS s]) hi ql (by simp; omega)) (fun v a => ?_)
            simp [cL]
          · show (if (!true) then _ else (app 288 acc [cS s]).bind _) = _
            rw [app_ok (by simp; omega)]; rfl
        · have hq : r.1.f_e ≠ 0 := ep_ne hc he
          cases hb : r.2.2 with
          | false => exact ⟨(r.1, acc), he, fun n => .inl rfl⟩
          | true =>
            refine ⟨(r.1, acc ++ [r.2.1]), he, fun n => ?_⟩
            show Sn n _ (app 288 acc [r.2.1] >>= fun v2 => SL n r.1 v2) _
            rw [app_ok (by simp; omega)]
            exact (SL_e hq n _).mono (by omega)
    · -- a statement
      simp only [sStmt]
      cases h1 : sSees (ByteArray.mk #[105, 102]) ts with
      | true =>
        have l0 : ts.tail.length ≤ 2000 := by have := sees_pos h1; omega
        simp only [if_true]
        refine TP.up (H := 2 * f + 7) (x := fun n => parse_reader_conditionalN n (PS L ts.tail 0 i) >>= fun v => some (v.1, v.2, true)) rfl (fun n => by simp only [parse_reader_stmtN, skip_P hl, h1, Option.bind_eq_bind, Option.bind_some, if_true]) ?_
        refine flag_T ?_
        refine TP.up (H := 2 * f + 6) (x := fun n => parse_reader_cond (PS L ts.tail 0 i) >>= fun v1 => parse_reader_blockN n v1.1 >>= fun v2 => parse_reader_skip v2.1 (ByteArray.mk #[101, 108, 115, 101]) >>= fun v3 => if v3.2 then (parse_reader_blockN n v3.1 >>= fun v4 => some (v4.1, (ast_Stmt.mk 2 nB nB zA v1.2 v2.2 v4.2 []))) else (some (v3.1, (ast_Stmt.mk 2 nB nB zA v1.2 v2.2 [] [])))) rfl (fun n => rfl) ?_
        refine TP.bind (π' := Prod.fst) (mk' := mkS) (cond_T l0) (fun c r1 h2 => ?_) (fun r c p hc he => ⟨(bE r.1, .mk 2 nB nB zA r.2 [] [] []), he, fun n => ((block_e (ep_ne hc he) n).mono (by omega)).bind (f := fun v2 => parse_reader_skip v2.1 (ByteArray.mk #[101, 108, 115, 101]) >>= fun v3 => if v3.2 then (parse_reader_blockN n v3.1 >>= fun v4 => some (v4.1, (ast_Stmt.mk 2 nB nB zA r.2 v2.2 v4.2 []))) else (some (v3.1, (ast_Stmt.mk 2 nB nB zA r.2 v2.2 [] [])))) (.inl (by rw [skip_e (a := bE r.1) (ep_ne hc he)]; rfl))⟩)
        have l1 := len_le (cond_suf h2).1 l0
        refine TP.bind (π' := Prod.fst) (mk' := mkS) (ih.block i r1 hi l1) (fun b r2 h3 => ?_) (fun r cc p hc he => ⟨(r.1, .mk 2 nB nB zA (cC c) r.2 [] []), he, fun n => .inl (by rw [skip_e (a := r.1) (ep_ne hc he)]; rfl)⟩)
        have l2 := len_le (sf.block _ _ _ _ h3) l1
        cases h4 : sSees (ByteArray.mk #[101, 108, 115, 101]) r2 with
        | true =>
          have l3 : r2.tail.length ≤ 2000 := by have := sees_pos h4; omega
          simp only [if_true]
          refine TP.eq (y := fun n => parse_reader_blockN n (PS L r2.tail 0 i) >>= fun v4 => some (v4.1, (ast_Stmt.mk 2 nB nB zA (cC c) (cL b) v4.2 []))) ?_ (fun n => by simp only [skip_P l2, h4, Option.bind_eq_bind, Option.bind_some, if_true])
          refine TP.bind (π' := Prod.fst) (mk' := mkS) (ih.block i r2.tail hi l3) (fun l r3 h5 => TP.pure (fun n => ?_)) (fun r cc p hc he => ⟨(r.1, .mk 2 nB nB zA (cC c) (cL b) r.2 []), he, fun n => .inl rfl⟩)
          simp only [mkS, cS, cZ, cA]
        | false =>
          simp only [Bool.false_eq_true, if_false]
          refine TP.pure (fun n => ?_)
          simp only [skip_P l2, h4, Option.bind_eq_bind, Option.bind_some, Bool.false_eq_true, if_false, mkS, cS, cZ, cA, cL]
      | false =>
      simp only [Bool.false_eq_true, if_false]
      cases h2 : sSees (ByteArray.mk #[119, 104, 105, 108, 101]) ts with
      | true =>
        have l0 : ts.tail.length ≤ 2000 := by have := sees_pos h2; omega
        simp only [if_true]
        refine TP.up (H := 2 * f + 7) (x := fun n => parse_reader_loopN n (PS L ts.tail 0 i) >>= fun v => some (v.1, v.2, true)) rfl (fun n => by simp only [parse_reader_stmtN, skip_P hl, h1, h2, Option.bind_eq_bind, Option.bind_some, if_true, Bool.false_eq_true, if_false]) ?_
        refine flag_T ?_
        refine TP.up (H := 2 * f + 6) (x := fun n => parse_reader_cond (PS L ts.tail 0 i) >>= fun v1 => parse_reader_blockN n v1.1 >>= fun v2 => some (v2.1, (ast_Stmt.mk 3 nB nB zA v1.2 v2.2 [] []))) rfl (fun n => rfl) ?_
        refine TP.bind (π' := Prod.fst) (mk' := mkS) (cond_T l0) (fun c r1 h2 => ?_) (fun r c p hc he => ⟨(bE r.1, .mk 3 nB nB zA r.2 [] [] []), he, fun n => ((block_e (ep_ne hc he) n).mono (by omega)).bind (f := fun v2 => some (v2.1, (ast_Stmt.mk 3 nB nB zA r.2 v2.2 [] []))) (.inl rfl)⟩)
        have l1 := len_le (cond_suf h2).1 l0
        refine TP.bind (π' := Prod.fst) (mk' := mkS) (ih.block i r1 hi l1) (fun b r2 h3 => TP.pure (fun n => ?_)) (fun r cc p hc he => ⟨(r.1, .mk 3 nB nB zA (cC c) r.2 [] []), he, fun n => .inl rfl⟩)
        simp only [mkS, cS, cZ, cA, cL]
      | false =>
      simp only [Bool.false_eq_true, if_false]
      cases h3 : sSees (ByteArray.mk #[115, 101, 110, 100]) ts with
      | true =>
        have l0 : ts.tail.length ≤ 2000 := by have := sees_pos h3; omega
        simp only [if_true]
        refine TP.mono (H := 1) ?_ (by omega)
        refine TP.up (H := 0) (x := fun n => parse_reader_send (PS L ts.tail 0 i) >>= fun v => some (v.1, v.2, true)) rfl (fun n => by simp only [parse_reader_stmtN, skip_P hl, h1, h2, h3, Option.bind_eq_bind, Option.bind_some, if_true, Bool.false_eq_true, if_false]) ?_
        exact flag_T (send_T l0)
      | false =>
      simp only [Bool.false_eq_true, if_false]
      cases h4 : sSees (ByteArray.mk #[114, 101, 99, 118]) ts with
      | true =>
        have l0 : ts.tail.length ≤ 2000 := by have := sees_pos h4; omega
        simp only [if_true]
        refine TP.up (H := 2 * f + 7) (x := fun n => parse_reader_recvN n (PS L ts.tail 0 i) >>= fun v => some (v.1, v.2, true)) rfl (fun n => by simp only [parse_reader_stmtN, skip_P hl, h1, h2, h3, h4, Option.bind_eq_bind, Option.bind_some, if_true, Bool.false_eq_true, if_false]) ?_
        refine flag_T ?_
        refine TP.up (H := 2 * f + 6) (x := fun n => parse_reader_name (PS L ts.tail 0 i) >>= fun v1 => parse_reader_must v1.1 (ByteArray.mk #[123]) >>= fun v2 => parse_reader_armN n v2 >>= fun v3 => app 56 [] [v3.2] >>= fun v4 => AL n v3.1 v4 >>= fun w => parse_reader_must w.1 (ByteArray.mk #[125]) >>= fun v8 => some (v8, (ast_Stmt.mk 5 v1.2 nB zA zCA [] [] w.2))) rfl (fun n => by
          simp only [parse_reader_recvN, Option.bind_eq_bind]
          congr 1; funext v1
          congr 1; funext v2
          congr 1; funext v3
          congr 1; funext v4
          unfold AL
          rw [Option.bind_eq_bind, Option.bind_assoc]
          show (iter (RB n) (tpA v3.1 v4)).bind _ = (iter (RB n) (tpA v3.1 v4)).bind _
          congr 1; funext o
          cases o <;> rfl) ?_
        have er : ∀ (a : parse_reader) (m : ByteArray), a.f_e ≠ 0 → ∀ n, Sn n (2 * f + 6) (parse_reader_armN n a >>= fun v3 => app 56 [] [v3.2] >>= fun v4 => AL n v3.1 v4 >>= fun w => parse_reader_must w.1 (ByteArray.mk #[125]) >>= fun v8 => some (v8, (ast_Stmt.mk 5 m nB zA zCA [] [] w.2))) (bE a, .mk 5 m nB zA zCA [] [] [.mk nB nB []]) := fun a m h n => by
          refine ((arm_e h n).mono (show 4 ≤ 2 * f + 6 by omega)).bind (f := fun v3 => app 56 [] [v3.2] >>= fun v4 => AL n v3.1 v4 >>= fun w => parse_reader_must w.1 (ByteArray.mk #[125]) >>= fun v8 => some (v8, (ast_Stmt.mk 5 m nB zA zCA [] [] w.2))) (.inl ?_)
          rw [app_ok (by simp)]
          show (AL n (bE a) _).bind _ = _
          rw [AL_e (a := bE a) h]
          show (parse_reader_must (bE a) _).bind _ = _
          rw [must_e (a := bE a) h]; rfl
        refine TP.bind (π' := Prod.fst) (mk' := mkS) (name_T l0) (fun m r1 q1 => ?_) (fun r c p hc he => ⟨(bE r.1, .mk 5 r.2 nB zA zCA [] [] [.mk nB nB []]), he, fun n => by rw [must_e (ep_ne hc he)]; exact er r.1 r.2 (ep_ne hc he) n⟩)
        have l1 := len_le (name_suf q1).1 l0
        refine TP.bind (π' := Prod.fst) (mk' := mkS) (must_T l1 _) (fun _ r2 q2 => ?_) (fun r c p hc he => ⟨(bE r, .mk 5 m nB zA zCA [] [] [.mk nB nB []]), he, fun n => er r m (ep_ne hc he) n⟩)
        have l2 := len_le (must_suf q2).1 l1
        refine TP.bind (π' := Prod.fst) (mk' := mkS) (ih.arm i r2 hi l2) (fun x r3 q3 => ?_) (fun r c p hc he => ⟨(r.1, .mk 5 m nB zA zCA [] [] [r.2]), he, fun n => .inl (by
          rw [app_ok (by simp)]
          show (AL n r.1 _).bind _ = _
          rw [AL_e (ep_ne hc he)]
          show (parse_reader_must r.1 _).bind _ = _
          rw [must_e (ep_ne hc he)]; rfl)⟩)
        have z3 := sf.arm _ _ _ _ q3
        have l3 := len_le z3.1 l2
        refine TP.eq (y := fun n => AL n (PS L r3 0 i) [cArm x] >>= fun w => parse_reader_must w.1 (ByteArray.mk #[125]) >>= fun v8 => some (v8, (ast_Stmt.mk 5 m nB zA zCA [] [] w.2))) ?_ (fun n => by rw [app_ok (by simp)]; rfl)
        refine TP.bind (π' := Prod.fst) (mk' := mkS) (ih.arms i r3 [cArm x] hi l3 (by simp; omega)) (fun l r4 q4 => ?_) (fun r c p hc he => ⟨(r.1, .mk 5 m nB zA zCA [] [] r.2), he, fun n => .inl (by rw [must_e (ep_ne hc he)]; rfl)⟩)
        have l4 := len_le (sf.arms _ _ _ _ q4) l3
        refine TP.bind (π' := Prod.fst) (mk' := mkS) (must_T l4 _) (fun _ r5 q5 => TP.pure (fun n => ?_)) (fun r c p hc he => ⟨(r, .mk 5 m nB zA zCA [] [] ([cArm x] ++ cA l)), he, fun n => .inl rfl⟩)
        simp only [mkS, cS, cZ, cZC, cL, cA_one, List.singleton_append]
      | false =>
      simp only [Bool.false_eq_true, if_false]
      cases h5 : sSees (ByteArray.mk #[97, 115, 115, 101, 114, 116]) ts with
      | true =>
        have l0 : ts.tail.length ≤ 2000 := by have := sees_pos h5; omega
        simp only [if_true]
        refine TP.mono (H := 1) ?_ (by omega)
        refine TP.up (H := 0) (x := fun n => parse_reader_assert (PS L ts.tail 0 i) >>= fun v => some (v.1, v.2, true)) rfl (fun n => by simp only [parse_reader_stmtN, skip_P hl, h1, h2, h3, h4, h5, Option.bind_eq_bind, Option.bind_some, if_true, Bool.false_eq_true, if_false]) ?_
        exact flag_T (assert_T l0)
      | false =>
      simp only [Bool.false_eq_true, if_false]
      cases h6 : sSees (ByteArray.mk #[105, 110, 112, 117, 116]) ts with
      | true =>
        have l0 : ts.tail.length ≤ 2000 := by have := sees_pos h6; omega
        simp only [if_true]
        refine TP.mono (H := 1) ?_ (by omega)
        refine TP.up (H := 0) (x := fun n => parse_reader_input (PS L ts.tail 0 i) >>= fun v => some (v.1, v.2, true)) rfl (fun n => by simp only [parse_reader_stmtN, skip_P hl, h1, h2, h3, h4, h5, h6, Option.bind_eq_bind, Option.bind_some, if_true, Bool.false_eq_true, if_false]) ?_
        exact flag_T (input_T l0)
      | false =>
      simp only [Bool.false_eq_true, if_false]
      cases h7 : sOf 1 ts with
      | true =>
        simp only [if_true]
        refine TP.mono (H := 1) ?_ (by omega)
        refine TP.up (H := 0) (x := fun n => parse_reader_assign (PS L ts 0 i) >>= fun v => some (v.1, v.2, true)) rfl (fun n => by simp only [parse_reader_stmtN, skip_P hl, of_P, h1, h2, h3, h4, h5, h6, h7, Option.bind_eq_bind, Option.bind_some, if_true, Bool.false_eq_true, if_false]) ?_
        exact flag_T (assign_T hl)
      | false =>
        simp only [Bool.false_eq_true, if_false]
        intro n
        cases n with
        | zero => exact .inr ⟨rfl, by omega⟩
        | succ n =>
          refine .inl ?_
          simp only [parse_reader_stmtN, skip_P hl, of_P, h1, h2, h3, h4, h5, h6, h7, Option.bind_eq_bind, Option.bind_some, Bool.false_eq_true, if_false]
          rfl
    · -- an arm
      simp only [sArm]
      refine TP.mono (H := 2 * f + 7) ?_ (by omega)
      refine TP.up (H := 2 * f + 6) (x := fun n => parse_reader_name (PS L ts 0 i) >>= fun v1 => parse_reader_must v1.1 (ByteArray.mk #[40]) >>= fun v2 => parse_reader_name v2 >>= fun v3 => parse_reader_must v3.1 (ByteArray.mk #[41]) >>= fun v4 => parse_reader_blockN n v4 >>= fun v5 => some (v5.1, (ast_Arm.mk v1.2 v3.2 v5.2))) rfl (fun n => rfl) ?_
      have er : ∀ (a : parse_reader) (s t : ByteArray), a.f_e ≠ 0 → ∀ n, Sn n (2 * f + 6) (parse_reader_blockN n a >>= fun v5 => some (v5.1, (ast_Arm.mk s t v5.2))) (bE a, .mk s t []) := fun a s t h n => ((block_e h n).mono (by omega)).bind (f := fun v5 => some (v5.1, (ast_Arm.mk s t v5.2))) (.inl rfl)
      refine TP.bind (π' := Prod.fst) (mk' := fun v a => (a, cArm v)) (name_T hl) (fun t r1 q1 => ?_) (fun r c p hc he => ⟨(bE r.1, .mk r.2 nB []), he, fun n => by
        have h := ep_ne hc he
        simp only [must_e h, name_e h, Option.bind_eq_bind, Option.bind_some]
        exact er r.1 r.2 nB h n⟩)
      have l1 := len_le (name_suf q1).1 hl
      refine TP.bind (π' := Prod.fst) (mk' := fun v a => (a, cArm v)) (must_T l1 _) (fun _ r2 q2 => ?_) (fun r c p hc he => ⟨(bE r, .mk t nB []), he, fun n => by
        have h : r.f_e ≠ 0 := ep_ne hc he
        simp only [must_e h, name_e h, Option.bind_eq_bind, Option.bind_some]
        exact er r t nB h n⟩)
      have l2 := len_le (must_suf q2).1 l1
      refine TP.bind (π' := Prod.fst) (mk' := fun v a => (a, cArm v)) (name_T l2) (fun w r3 q3 => ?_) (fun r c p hc he => ⟨(bE r.1, .mk t r.2 []), he, fun n => by
        have h := ep_ne hc he
        simp only [must_e h, Option.bind_eq_bind, Option.bind_some]
        exact er r.1 t r.2 h n⟩)
      have l3 := len_le (name_suf q3).1 l2
      refine TP.bind (π' := Prod.fst) (mk' := fun v a => (a, cArm v)) (must_T l3 _) (fun _ r4 q4 => ?_) (fun r c p hc he => ⟨(bE r, .mk t w []), he, fun n => er r t w (ep_ne hc he) n⟩)
      have l4 := len_le (must_suf q4).1 l3
      refine TP.bind (π' := Prod.fst) (mk' := fun v a => (a, cArm v)) (ih.block i r4 hi l4) (fun b r5 q5 => TP.pure (fun n => rfl)) (fun r c p hc he => ⟨(r.1, .mk t w r.2), he, fun n => .inl rfl⟩)
    · -- arms
      simp only [sArms]
      refine TP.eq (y := fun n => if sSees (ByteArray.mk #[125]) ts then some (PS L ts 0 i, acc) else parse_reader_armN n (PS L ts 0 i) >>= fun v => app 56 acc [v.2] >>= fun v2 => AL n v.1 v2) ?_ (fun n => AL_eq n acc)
      cases h1 : sSees (ByteArray.mk #[125]) ts with
      | true =>
        simp only [if_true]
        exact TP.pure (fun n => by simp [cA])
      | false =>
        simp only [Bool.false_eq_true, if_false]
        refine TP.mono (H := 2 * f + 6) ?_ (by omega)
        refine TP.bind (π' := Prod.fst) (mk' := fun v a => (a, acc ++ cA v)) (ih.arm i ts hi hl) (fun x r ho => ?_) (fun r c p hc he => ⟨(r.1, acc ++ [r.2]), he, fun n => .inl (by
          rw [app_ok (by simp; omega)]
          exact AL_e (ep_ne hc he) n _)⟩)
        have q := sf.arm _ _ _ _ ho
        have ql := len_le q.1 hl
        refine TP.eq (y := fun n => AL n (PS L r 0 i) (acc ++ [cArm x])) ?_ (fun n => ?_)
        · refine TP.map (g := fun l => x :: l) (ih.arms i r (acc ++ [cArm x]) hi ql (by simp; omega)) (fun v a => ?_)
          simp [cA_one]
        · show (app 56 acc [cArm x]).bind _ = _
          rw [app_ok (by simp; omega)]; rfl
    · -- a block
      simp only [sBlock]
      cases h1 : (sSees (ByteArray.mk #[123]) ts && decide (i = 24)) with
      | true =>
        simp only [Bool.and_eq_true, decide_eq_true_eq] at h1
        simp only [if_true]
        obtain ⟨h1, h2⟩ := h1
        subst h2
        refine TP.mono (H := 1) ?_ (by omega)
        refine TP.up (H := 0) (x := fun n => some (⟨ts.map tokT, L, 6, sAt L ts, 0, 24⟩, [])) rfl (fun n => by
          simp only [parse_reader_blockN, sees_P, h1, Option.bind_eq_bind, Option.bind_some, if_true, fail_P]
          rfl) ?_
        exact TP.err (fun n => rfl) (by decide) ⟨rfl, rfl⟩
      | false =>
        simp only [Bool.false_eq_true, if_false]
        have hj : (if sSees (ByteArray.mk #[123]) ts then some ((PS L ts 0 i).f_in == 24) else some false) = some false := by
          cases hs : sSees (ByteArray.mk #[123]) ts with
          | false => rfl
          | true =>
            rw [hs] at h1
            have h1 : decide (i = 24) = false := h1
            have : ((i : Int) == 24) = false := by simp at h1 ⊢; omega
            show some ((i : Int) == 24) = _
            rw [this]
        refine TP.mono (H := 2 * f + 8) ?_ (by omega)
        refine TP.up (H := 2 * f + 7) (x := fun n => parse_reader_must (PS L ts 0 i) (ByteArray.mk #[123]) >>= fun v3 => parse_reader_stmtsN n (parse_reader.mk v3.f_l v3.f_end v3.f_e v3.f_at v3.f_deep (IntKind.i64.wrap (v3.f_in + 1))) >>= fun v4 => parse_reader_must (parse_reader.mk v4.1.f_l v4.1.f_end v4.1.f_e v4.1.f_at v4.1.f_deep (IntKind.i64.wrap (v4.1.f_in - 1))) (ByteArray.mk #[125]) >>= fun v5 => some (v5, v4.2)) rfl (fun n => by
          simp only [parse_reader_blockN, sees_P, Option.bind_eq_bind, Option.bind_some, hj, Bool.false_eq_true, if_false]) ?_
        refine TP.bind (π' := Prod.fst) (mk' := mkL) (must_T hl _) (fun _ r1 q1 => ?_) (fun r c p hc he => ⟨(bE r, []), he, fun n => by
          have h : r.f_e ≠ 0 := ep_ne hc he
          refine ((stmts_e (a := ⟨r.f_l, r.f_end, r.f_e, r.f_at, r.f_deep, IntKind.i64.wrap (r.f_in + 1)⟩) h n).mono (by omega)).bind (f := fun v4 : parse_reader × List ast_Stmt => parse_reader_must (parse_reader.mk v4.1.f_l v4.1.f_end v4.1.f_e v4.1.f_at v4.1.f_deep (IntKind.i64.wrap (v4.1.f_in - 1))) (ByteArray.mk #[125]) >>= fun v5 => some (v5, v4.2)) (.inl ?_)
          show (parse_reader_must (bE r) (ByteArray.mk #[125])).bind _ = _
          rw [must_e (a := bE r) h]; rfl⟩)
        have l1 := len_le (must_suf q1).1 hl
        have hi' : i + 1 ≤ 24 := by
          have hs : sSees (ByteArray.mk #[123]) ts = true := by
            unfold sMust at q1
            split at q1
            · assumption
            · cases q1
          rw [hs] at h1
          have h1 : decide (i = 24) = false := h1
          simp at h1; omega
        have w1 : IntKind.i64.wrap ((PS L r1 0 i).f_in + 1) = ((i + 1 : Nat) : Int) := by
          show IntKind.i64.wrap ((i : Int) + 1) = _
          rw [w64 (by omega) (by omega)]; omega
        have hsl : TP L 0 ((i + 1 : Nat) : Int) Prod.fst mkL (2 * f + 7) (fun n => parse_reader_stmtsN n (PS L r1 0 ((i + 1 : Nat) : Int))) (sStmts L f (i + 1) r1) := TP.up (x := fun n => SL n (PS L r1 0 ((i + 1 : Nat) : Int)) []) rfl (fun n => rfl) (by
          have := ih.stmts (i + 1) r1 [] hi' l1 (by simpa using l1)
          simpa using this)
        refine TP.eq (y := fun n => parse_reader_stmtsN n (PS L r1 0 ((i + 1 : Nat) : Int)) >>= fun v4 => parse_reader_must (parse_reader.mk v4.1.f_l v4.1.f_end v4.1.f_e v4.1.f_at v4.1.f_deep (IntKind.i64.wrap (v4.1.f_in - 1))) (ByteArray.mk #[125]) >>= fun v5 => some (v5, v4.2)) ?_ (fun n => by
          show parse_reader_stmtsN n ⟨r1.map tokT, L, 0, 0, 0, IntKind.i64.wrap ((PS L r1 0 i).f_in + 1)⟩ >>= _ = _
          rw [w1]; rfl)
        refine TP.bind (π' := Prod.fst) (mk' := mkL) hsl (fun b r2 q2 => ?_) (fun r c p hc he => ⟨(⟨r.1.f_l, r.1.f_end, r.1.f_e, r.1.f_at, r.1.f_deep, IntKind.i64.wrap (r.1.f_in - 1)⟩, r.2), he, fun n => .inl (by
          rw [must_e (a := ⟨r.1.f_l, r.1.f_end, r.1.f_e, r.1.f_at, r.1.f_deep, IntKind.i64.wrap (r.1.f_in - 1)⟩) (ep_ne hc he)]; rfl)⟩)
        have l2 := len_le (sf.stmts _ _ _ _ q2) l1
        have w2 : IntKind.i64.wrap ((PS L r2 0 ((i + 1 : Nat) : Int)).f_in - 1) = (i : Int) := by
          show IntKind.i64.wrap (((i + 1 : Nat) : Int) - 1) = _
          rw [w64 (by omega) (by omega)]; omega
        refine TP.eq (y := fun n => parse_reader_must (PS L r2 0 i) (ByteArray.mk #[125]) >>= fun v5 => some (v5, cL b)) ?_ (fun n => by
          show parse_reader_must ⟨r2.map tokT, L, 0, 0, 0, IntKind.i64.wrap ((PS L r2 0 ((i + 1 : Nat) : Int)).f_in - 1)⟩ _ >>= _ = _
          rw [w2]; rfl)
        exact TP.bind (π' := Prod.fst) (mk' := mkL) (must_T l2 _) (fun _ r3 q3 => TP.pure (fun n => rfl)) (fun r c p hc he => ⟨(r, cL b), he, fun n => .inl rfl⟩)
end Go.Proofs.YtokjbpmjdcbogaaGreatDoor.Abs.Par
/- The program's reader reads channels, rules, processes and whole systems as parsing does. -/
namespace Go.Proofs.YtokjbpmjdcbogaaGreatDoor.Abs.Par
open Go Go.RowKit Wri
set_option linter.unusedVariables false
set_option linter.unusedSimpArgs false
/-! ### Many of a kind -/
def sMany {α : Type} (more : List Tok → Option (Rs α)) : Nat → List Tok → Rs (List α)
  | 0, _ => .out
  | f + 1, ts => match more ts with
    | none => .ok [] ts
    | some o => o.bind fun v r => (sMany more f r).bind fun l r' => .ok (v :: l) r'
structure More {α : Type} (more : List Tok → Option (Rs α)) : Prop where
  suf : ∀ ts v r, more ts = some (.ok v r) → r <:+ ts ∧ r.length < ts.length
  ne : ∀ ts, more ts ≠ some .out
theorem many_suf {α : Type} {more : List Tok → Option (Rs α)} (m : More more) : ∀ f ts v r, sMany more f ts = .ok v r → r <:+ ts := by
  intro f
  induction f with
  | zero => intro ts v r h; cases h
  | succ f ih =>
    intro ts v r h
    simp only [sMany] at h
    split at h
    · injection h with _ h; subst h; exact List.suffix_refl _
    · rename_i o ho
      obtain ⟨s, r1, h1, h0⟩ := bind_ok h
      obtain ⟨l, r2, h2, h3⟩ := bind_ok h0
      injection h3 with _ h3; subst h3; subst h1
      exact (ih _ _ _ h2).trans (m.suf _ _ _ ho).1
theorem many_ne {α : Type} {more : List Tok → Option (Rs α)} (m : More more) : ∀ f ts, ts.length + 1 ≤ f → sMany more f ts ≠ .out := by
  intro f
  induction f with
  | zero => intro ts h; omega
  | succ f ih =>
    intro ts hf h
    simp only [sMany] at h
    split at h
    · cases h
    · rename_i o ho
      rcases bind_out h with h0 | ⟨s, r1, h1, h0⟩
      · subst h0; exact m.ne _ ho
      · subst h1
        have := (m.suf _ _ _ ho).2
        rcases bind_out h0 with h2 | ⟨l, r2, h2, h3⟩
        · exact ih _ (by omega) h2
        · cases h3
abbrev T7 (β : Type) := List lex_Token × Int × Int × Int × Int × Int × List β
def tp7 {β : Type} (a : parse_reader) (l : List β) : T7 β := (a.f_l, a.f_end, a.f_e, a.f_at, a.f_deep, a.f_in, l)
noncomputable def LF {β O : Type} (body : T7 β → Option (Sum (T7 β) (Sum O (T7 β)))) (a : parse_reader) (l : List β) : Option (parse_reader × List β) :=
  iter body (tp7 a l) >>= Sum.elim (fun _ => none) (fun j1 => some (⟨j1.1, j1.2.1, j1.2.2.1, j1.2.2.2.1, j1.2.2.2.2.1, j1.2.2.2.2.2.1⟩, j1.2.2.2.2.2.2))
section
variable {β O : Type} {body : T7 β → Option (Sum (T7 β) (Sum O (T7 β)))} {a : parse_reader} {l : List β}
theorem LF_end (h : body (tp7 a l) = some (.inr (.inr (tp7 a l)))) : LF body a l = some (a, l) := by unfold LF; rw [iter_out h]; rfl
theorem LF_more {x : Option (parse_reader × List β)} (h : body (tp7 a l) = x >>= fun v => some (.inl (tp7 v.1 v.2))) : LF body a l = x >>= fun v => LF body v.1 v.2 := by
  unfold LF
  rw [iter_eq, h]
  simp only [Option.bind_eq_bind, Option.bind_assoc]
  congr 1
theorem LF_use {ρ : Type} (k : parse_reader × List β → Option ρ) : iter body (tp7 a l) >>= Sum.elim (fun _ => none) (fun j1 => k (⟨j1.1, j1.2.1, j1.2.2.1, j1.2.2.2.1, j1.2.2.2.2.1, j1.2.2.2.2.2.1⟩, j1.2.2.2.2.2.2)) = LF body a l >>= k := by
  unfold LF
  simp only [Option.bind_eq_bind, Option.bind_assoc]
  congr 1; funext o
  cases o <;> rfl
end
theorem many_T {β γ O : Type} {L d i : Int} {body : T7 β → Option (Sum (T7 β) (Sum O (T7 β)))} {more : List Tok → Option (Rs γ)} {cv : γ → β} (m : More more)
    (h0 : ∀ ts l, ts.length ≤ 2000 → more ts = none → body (tp7 (PS L ts d i) l) = some (.inr (.inr (tp7 (PS L ts d i) l))))
    (h1 : ∀ ts o, ts.length ≤ 2000 → more ts = some o → ∃ x, TP L d i Prod.fst (fun v a => (a, cv v)) 0 (fun _ => x) o ∧ ∀ l : List β, l.length ≤ 2000 → body (tp7 (PS L ts d i) l) = x >>= fun v => some (.inl (tp7 v.1 (l ++ [v.2]))))
    (h2 : ∀ a l, a.f_e ≠ 0 → body (tp7 a l) = some (.inr (.inr (tp7 a l)))) :
    ∀ f ts (l : List β), ts.length ≤ 2000 → l.length + ts.length ≤ 2000 → TP L d i Prod.fst (fun (v : List γ) a => (a, l ++ v.map cv)) 0 (fun _ => LF body (PS L ts d i) l) (sMany more f ts) := by
  intro f
  induction f with
  | zero => intro ts l _ _; exact tp_out
  | succ f ih =>
    intro ts l ht hl
    simp only [sMany]
    cases hm : more ts with
    | none => exact TP.pure (fun n => by rw [LF_end (h0 ts l ht hm)]; simp)
    | some o =>
      obtain ⟨x, hx, hb⟩ := h1 ts o ht hm
      refine TP.eq (y := fun _ => x >>= fun v => LF body v.1 (l ++ [v.2])) ?_ (fun n => by
        rw [LF_more (x := x >>= fun v => some (v.1, l ++ [v.2])) (by rw [hb l (by omega)]; simp only [Option.bind_eq_bind, Option.bind_assoc, Option.bind_some])]
        simp only [Option.bind_eq_bind, Option.bind_assoc, Option.bind_some])
      refine TP.bind (π' := Prod.fst) (mk' := fun (v : List γ) a => (a, l ++ v.map cv)) hx (fun v r ho => ?_) (fun r c p hc he => ⟨(r.1, l ++ [r.2]), he, fun n => .inl (LF_end (h2 r.1 _ (ep_ne hc he)))⟩)
      subst ho
      have q := m.suf _ _ _ hm
      refine TP.map (g := fun w => v :: w) (ih r (l ++ [cv v]) (len_le q.1 ht) (by simp; omega)) (fun w a => by simp)
/-! ### What channels, rules, processes and systems are -/
section
variable (L : Int)
def kindS : List ByteArray := [(ByteArray.mk #[98, 108, 111, 99, 107]), (ByteArray.mk #[100, 114, 111, 112]), (ByteArray.mk #[108, 111, 115, 115, 121])]
def mTag (ts : List Tok) : Option (Rs ByteArray) := if sSees (ByteArray.mk #[44]) ts then some (sName L ts.tail) else none
def sChan (ts : List Tok) : Rs r02_Chan := (sName L ts).bind fun n r1 => match sWhich kindS r1 with
  | none => .er 5 (sAt L r1)
  | some j => (sNum L r1.tail).bind fun z r2 => (sMust L (ByteArray.mk #[102, 114, 111, 109]) r2).bind fun _ r3 => (sName L r3).bind fun a r4 => (sMust L (ByteArray.mk #[116, 111]) r4).bind fun _ r5 => (sName L r5).bind fun b r6 =>
    (sMust L (ByteArray.mk #[123]) r6).bind fun _ r7 => (sName L r7).bind fun t r8 => (sMany (mTag L) (r8.length + 1) r8).bind fun l r9 => (sMust L (ByteArray.mk #[125]) r9).bind fun _ r10 => (sMust L (ByteArray.mk #[59]) r10).bind fun _ r11 => .ok ⟨n, (j : Int), z, a, b, t :: l⟩ r11
def sMove (ts : List Tok) : Rs r02_Move := (sNum L ts).bind fun a r1 => (sName L r1).bind fun t r2 => (sNum L r2).bind fun b r3 => (sMust L (ByteArray.mk #[59]) r3).bind fun _ r4 => .ok ⟨a, t, b⟩ r4
def mMove (ts : List Tok) : Option (Rs r02_Move) := if sSees (ByteArray.mk #[125]) ts then none else some (sMove L ts)
def sRule (ts : List Tok) : Rs r02_Rule := (sName L ts).bind fun n r1 => (sMust L (ByteArray.mk #[123]) r1).bind fun _ r2 => (sMany (mMove L) (r2.length + 1) r2).bind fun l r3 => (sMust L (ByteArray.mk #[125]) r3).bind fun _ r4 => .ok ⟨n, l⟩ r4
def mVar (ts : List Tok) : Option (Rs ByteArray) := if sSees (ByteArray.mk #[118, 97, 114]) ts then some ((sName L ts.tail).bind fun n r1 => (sMust L (ByteArray.mk #[59]) r1).bind fun _ r2 => .ok n r2) else none
def sBody (ts : List Tok) : Rs (List r02_Stmt) := sStmts L (3 * ts.length + 2) 0 ts
def sProc (ts : List Tok) : Rs r02_Proc := (sName L ts).bind fun n r1 => (sMust L (ByteArray.mk #[123]) r1).bind fun _ r2 => (sMany (mVar L) (r2.length + 1) r2).bind fun l r3 => (sBody L r3).bind fun b r4 => (sMust L (ByteArray.mk #[125]) r4).bind fun _ r5 => .ok ⟨n, l, b⟩ r5
def mChan (ts : List Tok) : Option (Rs r02_Chan) := if sSees (ByteArray.mk #[99, 104, 97, 110]) ts then some (sChan L ts.tail) else none
def mRule (ts : List Tok) : Option (Rs r02_Rule) := if sSees (ByteArray.mk #[114, 117, 108, 101]) ts then some (sRule L ts.tail) else none
def mProc (ts : List Tok) : Option (Rs r02_Proc) := if sSees (ByteArray.mk #[112, 114, 111, 99]) ts then some (sProc L ts.tail) else none
def sSys (ts : List Tok) : Rs r02_System := (sMany (mChan L) (ts.length + 1) ts).bind fun c r1 => (sMany (mRule L) (r1.length + 1) r1).bind fun r r2 => (sMany (mProc L) (r2.length + 1) r2).bind fun p r3 => .ok ⟨c, r, p⟩ r3
/-- A whole text's words. -/
def sAll (ts : List Tok) : Rs r02_System := (sSys L ts).bind fun v r => match r with | [] => .ok v [] | t :: _ => .er 5 (t.at_ : Int)
end
section
variable {L : Int}
theorem mTag_m : More (mTag L) where
  suf := fun ts v r h => by
    unfold mTag at h; split at h
    · rename_i hs; injection h with h; exact sees_suf hs (name_suf h).1
    · cases h
  ne := fun ts h => by
    unfold mTag at h; split at h
    · injection h with h; exact name_ne h
    · cases h
theorem chan_suf {ts r : List Tok} {v : r02_Chan} (h : sChan L ts = .ok v r) : r <:+ ts := by
  unfold sChan at h
  obtain ⟨_, r1, h1, h⟩ := bind_ok h
  split at h
  · cases h
  rename_i j hj
  obtain ⟨_, r2, h2, h⟩ := bind_ok h
  obtain ⟨_, r3, h3, h⟩ := bind_ok h
  obtain ⟨_, r4, h4, h⟩ := bind_ok h
  obtain ⟨_, r5, h5, h⟩ := bind_ok h
  obtain ⟨_, r6, h6, h⟩ := bind_ok h
  obtain ⟨_, r7, h7, h⟩ := bind_ok h
  obtain ⟨_, r8, h8, h⟩ := bind_ok h
  obtain ⟨_, r9, h9, h⟩ := bind_ok h
  obtain ⟨_, r10, h10, h⟩ := bind_ok h
  obtain ⟨_, r11, h11, h⟩ := bind_ok h
  injection h with _ h; subst h
  exact (must_suf h11).1.trans ((must_suf h10).1.trans ((many_suf mTag_m _ _ _ _ h9).trans ((name_suf h8).1.trans ((must_suf h7).1.trans ((name_suf h6).1.trans ((must_suf h5).1.trans ((name_suf h4).1.trans ((must_suf h3).1.trans ((num_suf h2).1.trans ((List.tail_suffix r1).trans (name_suf h1).1))))))))))
theorem chan_ne {ts : List Tok} : sChan L ts ≠ .out := fun h => by
  unfold sChan at h
  rcases bind_out h with h | ⟨_, _, _, h⟩
  · exact name_ne h
  split at h
  · cases h
  rcases bind_out h with h | ⟨_, _, _, h⟩
  · exact num_ne h
  rcases bind_out h with h | ⟨_, _, _, h⟩
  · exact must_ne h
  rcases bind_out h with h | ⟨_, _, _, h⟩
  · exact name_ne h
  rcases bind_out h with h | ⟨_, _, _, h⟩
  · exact must_ne h
  rcases bind_out h with h | ⟨_, _, _, h⟩
  · exact name_ne h
  rcases bind_out h with h | ⟨_, _, _, h⟩
  · exact must_ne h
  rcases bind_out h with h | ⟨_, _, _, h⟩
  · exact name_ne h
  rcases bind_out h with h | ⟨_, _, _, h⟩
  · exact many_ne mTag_m _ _ (Nat.le_refl _) h
  rcases bind_out h with h | ⟨_, _, _, h⟩
  · exact must_ne h
  rcases bind_out h with h | ⟨_, _, _, h⟩
  · exact must_ne h
  · cases h
theorem move_suf {ts r : List Tok} {v : r02_Move} (h : sMove L ts = .ok v r) : r <:+ ts ∧ r.length < ts.length := by
  unfold sMove at h
  obtain ⟨_, r1, h1, h⟩ := bind_ok h
  obtain ⟨_, r2, h2, h⟩ := bind_ok h
  obtain ⟨_, r3, h3, h⟩ := bind_ok h
  obtain ⟨_, r4, h4, h⟩ := bind_ok h
  injection h with _ h; subst h
  exact pos_suf ((must_suf h4).1.trans ((num_suf h3).1.trans (name_suf h2).1)) (num_suf h1).1 (num_suf h1).2
theorem move_ne {ts : List Tok} : sMove L ts ≠ .out := fun h => by
  unfold sMove at h
  rcases bind_out h with h | ⟨_, _, _, h⟩
  · exact num_ne h
  rcases bind_out h with h | ⟨_, _, _, h⟩
  · exact name_ne h
  rcases bind_out h with h | ⟨_, _, _, h⟩
  · exact num_ne h
  rcases bind_out h with h | ⟨_, _, _, h⟩
  · exact must_ne h
  · cases h
theorem mMove_m : More (mMove L) where
  suf := fun ts v r h => by
    unfold mMove at h; split at h
    · cases h
    · injection h with h; exact move_suf h
  ne := fun ts h => by
    unfold mMove at h; split at h
    · cases h
    · injection h with h; exact move_ne h
theorem rule_suf {ts r : List Tok} {v : r02_Rule} (h : sRule L ts = .ok v r) : r <:+ ts := by
  unfold sRule at h
  obtain ⟨_, r1, h1, h⟩ := bind_ok h
  obtain ⟨_, r2, h2, h⟩ := bind_ok h
  obtain ⟨_, r3, h3, h⟩ := bind_ok h
  obtain ⟨_, r4, h4, h⟩ := bind_ok h
  injection h with _ h; subst h
  exact (must_suf h4).1.trans ((many_suf mMove_m _ _ _ _ h3).trans ((must_suf h2).1.trans (name_suf h1).1))
theorem rule_ne {ts : List Tok} : sRule L ts ≠ .out := fun h => by
  unfold sRule at h
  rcases bind_out h with h | ⟨_, _, _, h⟩
  · exact name_ne h
  rcases bind_out h with h | ⟨_, _, _, h⟩
  · exact must_ne h
  rcases bind_out h with h | ⟨_, _, _, h⟩
  · exact many_ne mMove_m _ _ (Nat.le_refl _) h
  rcases bind_out h with h | ⟨_, _, _, h⟩
  · exact must_ne h
  · cases h
theorem mVar_m : More (mVar L) where
  suf := fun ts v r h => by
    unfold mVar at h; split at h
    · rename_i hs; injection h with h
      obtain ⟨_, r1, h1, h⟩ := bind_ok h
      obtain ⟨_, r2, h2, h⟩ := bind_ok h
      injection h with _ h; subst h
      exact sees_suf hs ((must_suf h2).1.trans (name_suf h1).1)
    · cases h
  ne := fun ts h => by
    unfold mVar at h; split at h
    · injection h with h
      rcases bind_out h with h | ⟨_, _, _, h⟩
      · exact name_ne h
      rcases bind_out h with h | ⟨_, _, _, h⟩
      · exact must_ne h
      · cases h
    · cases h
theorem body_suf {ts r : List Tok} {v : List r02_Stmt} (h : sBody L ts = .ok v r) : r <:+ ts := (sufS L _).stmts _ _ _ _ h
theorem body_ne {ts : List Tok} : sBody L ts ≠ .out := (fuS L _).stmts _ _ (Nat.le_refl _)
theorem proc_suf {ts r : List Tok} {v : r02_Proc} (h : sProc L ts = .ok v r) : r <:+ ts := by
  unfold sProc at h
  obtain ⟨_, r1, h1, h⟩ := bind_ok h
  obtain ⟨_, r2, h2, h⟩ := bind_ok h
  obtain ⟨_, r3, h3, h⟩ := bind_ok h
  obtain ⟨_, r4, h4, h⟩ := bind_ok h
  obtain ⟨_, r5, h5, h⟩ := bind_ok h
  injection h with _ h; subst h
  exact (must_suf h5).1.trans ((body_suf h4).trans ((many_suf mVar_m _ _ _ _ h3).trans ((must_suf h2).1.trans (name_suf h1).1)))
theorem proc_ne {ts : List Tok} : sProc L ts ≠ .out := fun h => by
  unfold sProc at h
  rcases bind_out h with h | ⟨_, _, _, h⟩
  · exact name_ne h
  rcases bind_out h with h | ⟨_, _, _, h⟩
  · exact must_ne h
  rcases bind_out h with h | ⟨_, _, _, h⟩
  · exact many_ne mVar_m _ _ (Nat.le_refl _) h
  rcases bind_out h with h | ⟨_, _, _, h⟩
  · exact body_ne h
  rcases bind_out h with h | ⟨_, _, _, h⟩
  · exact must_ne h
  · cases h
theorem mChan_m : More (mChan L) where
  suf := fun ts v r h => by
    unfold mChan at h; split at h
    · rename_i hs; injection h with h; exact sees_suf hs (chan_suf h)
    · cases h
  ne := fun ts h => by
    unfold mChan at h; split at h
    · injection h with h; exact chan_ne h
    · cases h
theorem mRule_m : More (mRule L) where
  suf := fun ts v r h => by
    unfold mRule at h; split at h
    · rename_i hs; injection h with h; exact sees_suf hs (rule_suf h)
    · cases h
  ne := fun ts h => by
    unfold mRule at h; split at h
    · injection h with h; exact rule_ne h
    · cases h
theorem mProc_m : More (mProc L) where
  suf := fun ts v r h => by
    unfold mProc at h; split at h
    · rename_i hs; injection h with h; exact sees_suf hs (proc_suf h)
    · cases h
  ne := fun ts h => by
    unfold mProc at h; split at h
    · injection h with h; exact proc_ne h
    · cases h
theorem sys_ne {ts : List Tok} : sSys L ts ≠ .out := fun h => by
  unfold sSys at h
  rcases bind_out h with h | ⟨_, _, _, h⟩
  · exact many_ne mChan_m _ _ (Nat.le_refl _) h
  rcases bind_out h with h | ⟨_, _, _, h⟩
  · exact many_ne mRule_m _ _ (Nat.le_refl _) h
  rcases bind_out h with h | ⟨_, _, _, h⟩
  · exact many_ne mProc_m _ _ (Nat.le_refl _) h
  · cases h
end
/-! ### Errors -/
section
variable {a : parse_reader} (h : a.f_e ≠ 0)
include h
theorem whichK_e : parse_reader_which a [(ByteArray.mk #[98, 108, 111, 99, 107]), (ByteArray.mk #[100, 114, 111, 112]), (ByteArray.mk #[108, 111, 115, 115, 121])] = some (a, -1) := which_e h _ (by decide)
theorem stmtsu_e : parse_reader_stmts a = some (a, []) := Sn.unf fun n => stmts_e h n
theorem tagb_e (l : List ByteArray) : parse_reader_channel_l1 (tp7 a l) = some (.inr (.inr (tp7 a l))) := by
  unfold parse_reader_channel_l1
  show (parse_reader_skip a _ >>= _) = _
  rw [skip_e h]; rfl
theorem movb_e (l : List ast_Move) : parse_reader_rule_l1 (tp7 a l) = some (.inr (.inr (tp7 a l))) := by
  unfold parse_reader_rule_l1
  rw [if_neg (by simpa [tp7] using h)]; rfl
theorem varb_e (l : List ByteArray) : parse_reader_proc_l1 (tp7 a l) = some (.inr (.inr (tp7 a l))) := by
  unfold parse_reader_proc_l1
  show (parse_reader_skip a _ >>= _) = _
  rw [skip_e h]; rfl
theorem chab_e (l : List ast_Chan) : parse_Parse_l1 (tp7 a l) = some (.inr (.inr (tp7 a l))) := by
  unfold parse_Parse_l1
  show (parse_reader_skip a _ >>= _) = _
  rw [skip_e h]; rfl
theorem rulb_e (l : List ast_Rule) : parse_Parse_l2 (tp7 a l) = some (.inr (.inr (tp7 a l))) := by
  unfold parse_Parse_l2
  show (parse_reader_skip a _ >>= _) = _
  rw [skip_e h]; rfl
theorem prob_e (l : List ast_Proc) : parse_Parse_l3 (tp7 a l) = some (.inr (.inr (tp7 a l))) := by
  unfold parse_Parse_l3
  show (parse_reader_skip a _ >>= _) = _
  rw [skip_e h]; rfl
theorem tagl_e (l : List ByteArray) : LF parse_reader_channel_l1 a l = some (a, l) := LF_end (tagb_e h l)
theorem movl_e (l : List ast_Move) : LF parse_reader_rule_l1 a l = some (a, l) := LF_end (movb_e h l)
theorem varl_e (l : List ByteArray) : LF parse_reader_proc_l1 a l = some (a, l) := LF_end (varb_e h l)
end
theorem app_nil16 (x : ByteArray) : app 16 [] [x] = some [x] := rfl
theorem mk_eta (a : parse_reader) : parse_reader.mk a.f_l a.f_end a.f_e a.f_at a.f_deep a.f_in = a := rfl
/-! ### The program's -/
instance : Inhabited ast_Move := ⟨⟨0, nB, 0⟩⟩
instance : Inhabited ast_Chan := ⟨⟨nB, 0, 0, nB, nB, []⟩⟩
instance : Inhabited ast_Rule := ⟨⟨nB, []⟩⟩
instance : Inhabited ast_Proc := ⟨⟨nB, [], []⟩⟩
theorem chan_eq (a : parse_reader) : parse_reader_channel a = parse_reader_name a >>= fun v1 => parse_reader_which v1.1 [(ByteArray.mk #[98, 108, 111, 99, 107]), (ByteArray.mk #[100, 114, 111, 112]), (ByteArray.mk #[108, 111, 115, 115, 121])] >>= fun v2 =>
    if (decide (v2.2 < 0)) then (parse_reader_fail v2.1 5 >>= fun v3 => some (v3, (ast_Chan.mk v1.2 v2.2 0 (ByteArray.mk #[]) (ByteArray.mk #[]) [])))
    else (parse_reader_number v2.1 >>= fun v4 => parse_reader_must v4.1 (ByteArray.mk #[102, 114, 111, 109]) >>= fun v5 => parse_reader_name v5 >>= fun v6 => parse_reader_must v6.1 (ByteArray.mk #[116, 111]) >>= fun v7 => parse_reader_name v7 >>= fun v8 => parse_reader_must v8.1 (ByteArray.mk #[123]) >>= fun v9 =>
      parse_reader_name v9 >>= fun v10 => app 16 [] [v10.2] >>= fun v11 => LF parse_reader_channel_l1 v10.1 v11 >>= fun w => parse_reader_must w.1 (ByteArray.mk #[125]) >>= fun v15 => parse_reader_must v15 (ByteArray.mk #[59]) >>= fun v16 => some (v16, (ast_Chan.mk v1.2 v2.2 v4.2 v6.2 v8.2 w.2))) := by
  simp only [← LF_use]; rfl
theorem rule_eq (a : parse_reader) : parse_reader_rule a = parse_reader_name a >>= fun v1 => parse_reader_must v1.1 (ByteArray.mk #[123]) >>= fun v2 => LF parse_reader_rule_l1 v2 [] >>= fun w => parse_reader_must w.1 (ByteArray.mk #[125]) >>= fun v9 => some (v9, (ast_Rule.mk v1.2 w.2)) := by
  simp only [← LF_use]; rfl
theorem proc_eq (a : parse_reader) : parse_reader_proc a = parse_reader_name a >>= fun v1 => parse_reader_must v1.1 (ByteArray.mk #[123]) >>= fun v2 => LF parse_reader_proc_l1 v2 [] >>= fun w => parse_reader_stmts w.1 >>= fun v7 => parse_reader_must v7.1 (ByteArray.mk #[125]) >>= fun v8 => some (v8, (ast_Proc.mk v1.2 w.2 v7.2)) := by
  simp only [← LF_use]; rfl
abbrev mkCh : r02_Chan → parse_reader → parse_reader × ast_Chan := fun v a => (a, cCh v)
abbrev mkMo : r02_Move → parse_reader → parse_reader × ast_Move := fun v a => (a, cMo v)
abbrev mkRu : r02_Rule → parse_reader → parse_reader × ast_Rule := fun v a => (a, cRu v)
abbrev mkPr : r02_Proc → parse_reader → parse_reader × ast_Proc := fun v a => (a, cPr v)
section
variable {L i : Int}
theorem tags_T {ts : List Tok} {t : ByteArray} (hl : ts.length + 1 ≤ 2000) : TP L 0 i Prod.fst (fun v a => (a, [t] ++ v.map id)) 0 (fun _ => LF parse_reader_channel_l1 (PS L ts 0 i) [t]) (sMany (mTag L) (ts.length + 1) ts) := by
  refine many_T (cv := id) mTag_m (fun ts l ht hm => ?_) (fun ts o ht hm => ?_) (fun a l h => tagb_e h l) _ ts [t] (by omega) (by simp; omega)
  · unfold mTag at hm
    cases hs : sSees (ByteArray.mk #[44]) ts with
    | true => rw [hs] at hm; cases hm
    | false =>
      unfold parse_reader_channel_l1
      show (parse_reader_skip (PS L ts 0 i) _ >>= _) = _
      rw [skip_P ht, hs]; rfl
  · unfold mTag at hm
    cases hs : sSees (ByteArray.mk #[44]) ts with
    | false => rw [hs] at hm; cases hm
    | true =>
      rw [hs] at hm; injection hm with hm; subst hm
      have l0 : ts.tail.length ≤ 2000 := by have := sees_pos hs; omega
      refine ⟨parse_reader_name (PS L ts.tail 0 i), name_T l0, fun l hll => ?_⟩
      unfold parse_reader_channel_l1
      show (parse_reader_skip (PS L ts 0 i) _ >>= _) = _
      rw [skip_P ht, hs]
      simp only [Option.bind_eq_bind, Option.bind_some, if_true]
      congr 1; funext v
      show (app 16 l [v.2]).bind _ = _
      rw [app_ok (by simp; omega)]; rfl
theorem chan_T {ts : List Tok} {H : Nat} (hl : ts.length ≤ 2000) : TP L 0 i Prod.fst mkCh H (fun _ => parse_reader_channel (PS L ts 0 i)) (sChan L ts) := by
  refine TP.eq (y := fun _ => _) ?_ (fun _ => chan_eq _)
  unfold sChan
  refine TP.bind (π' := Prod.fst) (mk' := mkCh) (name_T hl) (fun m r1 h1 => ?_) (fun r c p hc he => her_get (fun n => by have h : r.1.f_e ≠ 0 := ep_ne hc he; simp only [must_e h, name_e h, num_e h, skip_e h, sees_e h, of_e h, fail_e h, whichK_e h, tagl_e h, movl_e h, varl_e h, stmtsu_e h, app_nil16, mk_eta, Option.bind_eq_bind, Option.bind_some, Option.getD_some, neg1, if_true, Bool.false_eq_true, if_false, Sum.elim_inr]) (by have h : r.1.f_e ≠ 0 := ep_ne hc he; simp only [must_e h, name_e h, num_e h, skip_e h, sees_e h, of_e h, fail_e h, whichK_e h, tagl_e h, movl_e h, varl_e h, stmtsu_e h, app_nil16, mk_eta, Option.bind_eq_bind, Option.bind_some, Option.getD_some, neg1, if_true, Bool.false_eq_true, if_false, Sum.elim_inr]; exact ⟨he.1, he.2⟩))
  have l1 := len_le (name_suf h1).1 hl
  have hw := which_P (L := L) (d := 0) (i := i) l1 kindS (by decide)
  cases hs : sWhich kindS r1 with
  | none =>
    rw [hs] at hw
    refine TP.err (r := ((⟨r1.map tokT, L, 5, sAt L r1, 0, i⟩ : parse_reader), ⟨m, -1, 0, nB, nB, []⟩)) (fun n => ?_) (by decide) ⟨rfl, rfl⟩
    show (parse_reader_which (PS L r1 0 i) kindS).bind _ = _
    rw [hw]
    simp only [Option.bind_some, neg1, if_true, fail_P, Option.bind_eq_bind]
  | some j =>
    rw [hs] at hw
    have q1 : decide (((j : Nat) : Int) < 0) = false := by simp
    have l2 : r1.tail.length ≤ 2000 := by have := (which_pos hs).1; omega
    refine TP.eq (y := fun _ => parse_reader_number (PS L r1.tail 0 i) >>= fun v4 => parse_reader_must v4.1 (ByteArray.mk #[102, 114, 111, 109]) >>= fun v5 => parse_reader_name v5 >>= fun v6 => parse_reader_must v6.1 (ByteArray.mk #[116, 111]) >>= fun v7 => parse_reader_name v7 >>= fun v8 => parse_reader_must v8.1 (ByteArray.mk #[123]) >>= fun v9 =>
      parse_reader_name v9 >>= fun v10 => app 16 [] [v10.2] >>= fun v11 => LF parse_reader_channel_l1 v10.1 v11 >>= fun w => parse_reader_must w.1 (ByteArray.mk #[125]) >>= fun v15 => parse_reader_must v15 (ByteArray.mk #[59]) >>= fun v16 => some (v16, (ast_Chan.mk m (j : Int) v4.2 v6.2 v8.2 w.2))) ?_ (fun n => by
      show (parse_reader_which (PS L r1 0 i) kindS).bind _ = _
      rw [hw]
      simp only [Option.bind_some, q1, Bool.false_eq_true, if_false])
    refine TP.bind (π' := Prod.fst) (mk' := mkCh) (num_T l2) (fun z r2 h2 => ?_) (fun r c p hc he => her_get (fun n => by have h : r.1.f_e ≠ 0 := ep_ne hc he; simp only [must_e h, name_e h, num_e h, skip_e h, sees_e h, of_e h, fail_e h, whichK_e h, tagl_e h, movl_e h, varl_e h, stmtsu_e h, app_nil16, mk_eta, Option.bind_eq_bind, Option.bind_some, Option.getD_some, neg1, if_true, Bool.false_eq_true, if_false, Sum.elim_inr]) (by have h : r.1.f_e ≠ 0 := ep_ne hc he; simp only [must_e h, name_e h, num_e h, skip_e h, sees_e h, of_e h, fail_e h, whichK_e h, tagl_e h, movl_e h, varl_e h, stmtsu_e h, app_nil16, mk_eta, Option.bind_eq_bind, Option.bind_some, Option.getD_some, neg1, if_true, Bool.false_eq_true, if_false, Sum.elim_inr]; exact ⟨he.1, he.2⟩))
    have l2 := len_le (num_suf h2).1 l2
    refine TP.bind (π' := Prod.fst) (mk' := mkCh) (must_T l2 _) (fun _ r3 h3 => ?_) (fun r c p hc he => her_get (fun n => by have h : r.f_e ≠ 0 := ep_ne hc he; simp only [must_e h, name_e h, num_e h, skip_e h, sees_e h, of_e h, fail_e h, whichK_e h, tagl_e h, movl_e h, varl_e h, stmtsu_e h, app_nil16, mk_eta, Option.bind_eq_bind, Option.bind_some, Option.getD_some, neg1, if_true, Bool.false_eq_true, if_false, Sum.elim_inr]) (by have h : r.f_e ≠ 0 := ep_ne hc he; simp only [must_e h, name_e h, num_e h, skip_e h, sees_e h, of_e h, fail_e h, whichK_e h, tagl_e h, movl_e h, varl_e h, stmtsu_e h, app_nil16, mk_eta, Option.bind_eq_bind, Option.bind_some, Option.getD_some, neg1, if_true, Bool.false_eq_true, if_false, Sum.elim_inr]; exact ⟨he.1, he.2⟩))
    have l3 := len_le (must_suf h3).1 l2
    refine TP.bind (π' := Prod.fst) (mk' := mkCh) (name_T l3) (fun a r4 h4 => ?_) (fun r c p hc he => her_get (fun n => by have h : r.1.f_e ≠ 0 := ep_ne hc he; simp only [must_e h, name_e h, num_e h, skip_e h, sees_e h, of_e h, fail_e h, whichK_e h, tagl_e h, movl_e h, varl_e h, stmtsu_e h, app_nil16, mk_eta, Option.bind_eq_bind, Option.bind_some, Option.getD_some, neg1, if_true, Bool.false_eq_true, if_false, Sum.elim_inr]) (by have h : r.1.f_e ≠ 0 := ep_ne hc he; simp only [must_e h, name_e h, num_e h, skip_e h, sees_e h, of_e h, fail_e h, whichK_e h, tagl_e h, movl_e h, varl_e h, stmtsu_e h, app_nil16, mk_eta, Option.bind_eq_bind, Option.bind_some, Option.getD_some, neg1, if_true, Bool.false_eq_true, if_false, Sum.elim_inr]; exact ⟨he.1, he.2⟩))
    have l4 := len_le (name_suf h4).1 l3
    refine TP.bind (π' := Prod.fst) (mk' := mkCh) (must_T l4 _) (fun _ r5 h5 => ?_) (fun r c p hc he => her_get (fun n => by have h : r.f_e ≠ 0 := ep_ne hc he; simp only [must_e h, name_e h, num_e h, skip_e h, sees_e h, of_e h, fail_e h, whichK_e h, tagl_e h, movl_e h, varl_e h, stmtsu_e h, app_nil16, mk_eta, Option.bind_eq_bind, Option.bind_some, Option.getD_some, neg1, if_true, Bool.false_eq_true, if_false, Sum.elim_inr]) (by have h : r.f_e ≠ 0 := ep_ne hc he; simp only [must_e h, name_e h, num_e h, skip_e h, sees_e h, of_e h, fail_e h, whichK_e h, tagl_e h, movl_e h, varl_e h, stmtsu_e h, app_nil16, mk_eta, Option.bind_eq_bind, Option.bind_some, Option.getD_some, neg1, if_true, Bool.false_eq_true, if_false, Sum.elim_inr]; exact ⟨he.1, he.2⟩))
    have l5 := len_le (must_suf h5).1 l4
    refine TP.bind (π' := Prod.fst) (mk' := mkCh) (name_T l5) (fun b r6 h6 => ?_) (fun r c p hc he => her_get (fun n => by have h : r.1.f_e ≠ 0 := ep_ne hc he; simp only [must_e h, name_e h, num_e h, skip_e h, sees_e h, of_e h, fail_e h, whichK_e h, tagl_e h, movl_e h, varl_e h, stmtsu_e h, app_nil16, mk_eta, Option.bind_eq_bind, Option.bind_some, Option.getD_some, neg1, if_true, Bool.false_eq_true, if_false, Sum.elim_inr]) (by have h : r.1.f_e ≠ 0 := ep_ne hc he; simp only [must_e h, name_e h, num_e h, skip_e h, sees_e h, of_e h, fail_e h, whichK_e h, tagl_e h, movl_e h, varl_e h, stmtsu_e h, app_nil16, mk_eta, Option.bind_eq_bind, Option.bind_some, Option.getD_some, neg1, if_true, Bool.false_eq_true, if_false, Sum.elim_inr]; exact ⟨he.1, he.2⟩))
    have l6 := len_le (name_suf h6).1 l5
    refine TP.bind (π' := Prod.fst) (mk' := mkCh) (must_T l6 _) (fun _ r7 h7 => ?_) (fun r c p hc he => her_get (fun n => by have h : r.f_e ≠ 0 := ep_ne hc he; simp only [must_e h, name_e h, num_e h, skip_e h, sees_e h, of_e h, fail_e h, whichK_e h, tagl_e h, movl_e h, varl_e h, stmtsu_e h, app_nil16, mk_eta, Option.bind_eq_bind, Option.bind_some, Option.getD_some, neg1, if_true, Bool.false_eq_true, if_false, Sum.elim_inr]) (by have h : r.f_e ≠ 0 := ep_ne hc he; simp only [must_e h, name_e h, num_e h, skip_e h, sees_e h, of_e h, fail_e h, whichK_e h, tagl_e h, movl_e h, varl_e h, stmtsu_e h, app_nil16, mk_eta, Option.bind_eq_bind, Option.bind_some, Option.getD_some, neg1, if_true, Bool.false_eq_true, if_false, Sum.elim_inr]; exact ⟨he.1, he.2⟩))
    have l7 := len_le (must_suf h7).1 l6
    refine TP.bind (π' := Prod.fst) (mk' := mkCh) (name_T l7) (fun t r8 h8 => ?_) (fun r c p hc he => her_get (fun n => by have h : r.1.f_e ≠ 0 := ep_ne hc he; simp only [must_e h, name_e h, num_e h, skip_e h, sees_e h, of_e h, fail_e h, whichK_e h, tagl_e h, movl_e h, varl_e h, stmtsu_e h, app_nil16, mk_eta, Option.bind_eq_bind, Option.bind_some, Option.getD_some, neg1, if_true, Bool.false_eq_true, if_false, Sum.elim_inr]) (by have h : r.1.f_e ≠ 0 := ep_ne hc he; simp only [must_e h, name_e h, num_e h, skip_e h, sees_e h, of_e h, fail_e h, whichK_e h, tagl_e h, movl_e h, varl_e h, stmtsu_e h, app_nil16, mk_eta, Option.bind_eq_bind, Option.bind_some, Option.getD_some, neg1, if_true, Bool.false_eq_true, if_false, Sum.elim_inr]; exact ⟨he.1, he.2⟩))
    have z8 := (name_suf h8).2
    have l8 := len_le (name_suf h8).1 l7
    refine TP.eq (y := fun _ => LF parse_reader_channel_l1 (PS L r8 0 i) [t] >>= fun w => parse_reader_must w.1 (ByteArray.mk #[125]) >>= fun v15 => parse_reader_must v15 (ByteArray.mk #[59]) >>= fun v16 => some (v16, (ast_Chan.mk m (j : Int) z a b w.2))) ?_ (fun n => rfl)
    refine TP.bind (π' := Prod.fst) (mk' := mkCh) ((tags_T (t := t) (by omega)).mono (Nat.zero_le _)) (fun l r9 h9 => ?_) (fun r c p hc he => her_get (fun n => by have h : r.1.f_e ≠ 0 := ep_ne hc he; simp only [must_e h, name_e h, num_e h, skip_e h, sees_e h, of_e h, fail_e h, whichK_e h, tagl_e h, movl_e h, varl_e h, stmtsu_e h, app_nil16, mk_eta, Option.bind_eq_bind, Option.bind_some, Option.getD_some, neg1, if_true, Bool.false_eq_true, if_false, Sum.elim_inr]) (by have h : r.1.f_e ≠ 0 := ep_ne hc he; simp only [must_e h, name_e h, num_e h, skip_e h, sees_e h, of_e h, fail_e h, whichK_e h, tagl_e h, movl_e h, varl_e h, stmtsu_e h, app_nil16, mk_eta, Option.bind_eq_bind, Option.bind_some, Option.getD_some, neg1, if_true, Bool.false_eq_true, if_false, Sum.elim_inr]; exact ⟨he.1, he.2⟩))
    have l9 := len_le (many_suf mTag_m _ _ _ _ h9) l8
    refine TP.bind (π' := Prod.fst) (mk' := mkCh) (must_T l9 _) (fun _ r10 h10 => ?_) (fun r c p hc he => her_get (fun n => by have h : r.f_e ≠ 0 := ep_ne hc he; simp only [must_e h, name_e h, num_e h, skip_e h, sees_e h, of_e h, fail_e h, whichK_e h, tagl_e h, movl_e h, varl_e h, stmtsu_e h, app_nil16, mk_eta, Option.bind_eq_bind, Option.bind_some, Option.getD_some, neg1, if_true, Bool.false_eq_true, if_false, Sum.elim_inr]) (by have h : r.f_e ≠ 0 := ep_ne hc he; simp only [must_e h, name_e h, num_e h, skip_e h, sees_e h, of_e h, fail_e h, whichK_e h, tagl_e h, movl_e h, varl_e h, stmtsu_e h, app_nil16, mk_eta, Option.bind_eq_bind, Option.bind_some, Option.getD_some, neg1, if_true, Bool.false_eq_true, if_false, Sum.elim_inr]; exact ⟨he.1, he.2⟩))
    have l10 := len_le (must_suf h10).1 l9
    refine TP.bind (π' := Prod.fst) (mk' := mkCh) (must_T l10 _) (fun _ r11 h11 => TP.pure (fun n => ?_)) (fun r c p hc he => her_get (fun n => by have h : r.f_e ≠ 0 := ep_ne hc he; simp only [must_e h, name_e h, num_e h, skip_e h, sees_e h, of_e h, fail_e h, whichK_e h, tagl_e h, movl_e h, varl_e h, stmtsu_e h, app_nil16, mk_eta, Option.bind_eq_bind, Option.bind_some, Option.getD_some, neg1, if_true, Bool.false_eq_true, if_false, Sum.elim_inr]) (by have h : r.f_e ≠ 0 := ep_ne hc he; simp only [must_e h, name_e h, num_e h, skip_e h, sees_e h, of_e h, fail_e h, whichK_e h, tagl_e h, movl_e h, varl_e h, stmtsu_e h, app_nil16, mk_eta, Option.bind_eq_bind, Option.bind_some, Option.getD_some, neg1, if_true, Bool.false_eq_true, if_false, Sum.elim_inr]; exact ⟨he.1, he.2⟩))
    simp [mkCh, cCh]
theorem move_T {ts : List Tok} (hl : ts.length ≤ 2000) : TP L 0 i Prod.fst mkMo 0 (fun _ => parse_reader_number (PS L ts 0 i) >>= fun v4 => parse_reader_name v4.1 >>= fun v5 => parse_reader_number v5.1 >>= fun v6 => parse_reader_must v6.1 (ByteArray.mk #[59]) >>= fun v7 => some (v7, ast_Move.mk v4.2 v5.2 v6.2)) (sMove L ts) := by
  unfold sMove
  refine TP.bind (π' := Prod.fst) (mk' := mkMo) (num_T hl) (fun a r1 h1 => ?_) (fun r c p hc he => her_get (fun n => by have h : r.1.f_e ≠ 0 := ep_ne hc he; simp only [must_e h, name_e h, num_e h, Option.bind_eq_bind, Option.bind_some, Option.getD_some]) (by have h : r.1.f_e ≠ 0 := ep_ne hc he; simp only [must_e h, name_e h, num_e h, Option.bind_eq_bind, Option.bind_some, Option.getD_some]; exact ⟨he.1, he.2⟩))
  have l1 := len_le (num_suf h1).1 hl
  refine TP.bind (π' := Prod.fst) (mk' := mkMo) (name_T l1) (fun t r2 h2 => ?_) (fun r c p hc he => her_get (fun n => by have h : r.1.f_e ≠ 0 := ep_ne hc he; simp only [must_e h, name_e h, num_e h, Option.bind_eq_bind, Option.bind_some, Option.getD_some]) (by have h : r.1.f_e ≠ 0 := ep_ne hc he; simp only [must_e h, name_e h, num_e h, Option.bind_eq_bind, Option.bind_some, Option.getD_some]; exact ⟨he.1, he.2⟩))
  have l2 := len_le (name_suf h2).1 l1
  refine TP.bind (π' := Prod.fst) (mk' := mkMo) (num_T l2) (fun b r3 h3 => ?_) (fun r c p hc he => her_get (fun n => by have h : r.1.f_e ≠ 0 := ep_ne hc he; simp only [must_e h, name_e h, num_e h, Option.bind_eq_bind, Option.bind_some, Option.getD_some]) (by have h : r.1.f_e ≠ 0 := ep_ne hc he; simp only [must_e h, name_e h, num_e h, Option.bind_eq_bind, Option.bind_some, Option.getD_some]; exact ⟨he.1, he.2⟩))
  have l3 := len_le (num_suf h3).1 l2
  exact TP.bind (π' := Prod.fst) (mk' := mkMo) (must_T l3 _) (fun _ r4 h4 => TP.pure (fun n => rfl)) (fun r c p hc he => ⟨(r, ⟨a, t, b⟩), he, fun n => .inl rfl⟩)
theorem moves_T {ts : List Tok} (hl : ts.length ≤ 2000) : TP L 0 i Prod.fst (fun v a => (a, [] ++ v.map cMo)) 0 (fun _ => LF parse_reader_rule_l1 (PS L ts 0 i) []) (sMany (mMove L) (ts.length + 1) ts) := by
  refine many_T (cv := cMo) mMove_m (fun ts l ht hm => ?_) (fun ts o ht hm => ?_) (fun a l h => movb_e h l) _ ts [] (by omega) (by simp; omega)
  · unfold mMove at hm
    cases hs : sSees (ByteArray.mk #[125]) ts with
    | false => rw [hs] at hm; cases hm
    | true =>
      unfold parse_reader_rule_l1
      rw [if_pos (by rfl)]
      show ((parse_reader_sees (PS L ts 0 i) (ByteArray.mk #[125]) >>= fun v5 => some (!v5)) >>= _) = _
      rw [sees_P, hs]; rfl
  · unfold mMove at hm
    cases hs : sSees (ByteArray.mk #[125]) ts with
    | true => rw [hs] at hm; cases hm
    | false =>
      rw [hs] at hm; injection hm with hm; subst hm
      refine ⟨_, move_T ht, fun l hll => ?_⟩
      unfold parse_reader_rule_l1
      rw [if_pos (by rfl)]
      show ((parse_reader_sees (PS L ts 0 i) (ByteArray.mk #[125]) >>= fun v5 => some (!v5)) >>= _) = _
      rw [sees_P, hs]
      simp only [Option.bind_eq_bind, Option.bind_some, Bool.not_false, if_true, Option.bind_assoc]
      congr 1; funext v4
      congr 1; funext v5
      congr 1; funext v6
      congr 1; funext v7
      show (app 32 l [_]).bind _ = _
      rw [app_ok (by simp; omega)]; rfl
theorem rule_T {ts : List Tok} {H : Nat} (hl : ts.length ≤ 2000) : TP L 0 i Prod.fst mkRu H (fun _ => parse_reader_rule (PS L ts 0 i)) (sRule L ts) := by
  refine TP.eq (y := fun _ => _) ?_ (fun _ => rule_eq _)
  unfold sRule
  refine TP.bind (π' := Prod.fst) (mk' := mkRu) (name_T hl) (fun m r1 h1 => ?_) (fun r c p hc he => her_get (fun n => by have h : r.1.f_e ≠ 0 := ep_ne hc he; simp only [must_e h, name_e h, num_e h, skip_e h, sees_e h, of_e h, fail_e h, whichK_e h, tagl_e h, movl_e h, varl_e h, stmtsu_e h, app_nil16, mk_eta, Option.bind_eq_bind, Option.bind_some, Option.getD_some, neg1, if_true, Bool.false_eq_true, if_false, Sum.elim_inr]) (by have h : r.1.f_e ≠ 0 := ep_ne hc he; simp only [must_e h, name_e h, num_e h, skip_e h, sees_e h, of_e h, fail_e h, whichK_e h, tagl_e h, movl_e h, varl_e h, stmtsu_e h, app_nil16, mk_eta, Option.bind_eq_bind, Option.bind_some, Option.getD_some, neg1, if_true, Bool.false_eq_true, if_false, Sum.elim_inr]; exact ⟨he.1, he.2⟩))
  have l1 := len_le (name_suf h1).1 hl
  refine TP.bind (π' := Prod.fst) (mk' := mkRu) (must_T l1 _) (fun _ r2 h2 => ?_) (fun r c p hc he => her_get (fun n => by have h : r.f_e ≠ 0 := ep_ne hc he; simp only [must_e h, name_e h, num_e h, skip_e h, sees_e h, of_e h, fail_e h, whichK_e h, tagl_e h, movl_e h, varl_e h, stmtsu_e h, app_nil16, mk_eta, Option.bind_eq_bind, Option.bind_some, Option.getD_some, neg1, if_true, Bool.false_eq_true, if_false, Sum.elim_inr]) (by have h : r.f_e ≠ 0 := ep_ne hc he; simp only [must_e h, name_e h, num_e h, skip_e h, sees_e h, of_e h, fail_e h, whichK_e h, tagl_e h, movl_e h, varl_e h, stmtsu_e h, app_nil16, mk_eta, Option.bind_eq_bind, Option.bind_some, Option.getD_some, neg1, if_true, Bool.false_eq_true, if_false, Sum.elim_inr]; exact ⟨he.1, he.2⟩))
  have l2 := len_le (must_suf h2).1 l1
  refine TP.bind (π' := Prod.fst) (mk' := mkRu) ((moves_T l2).mono (Nat.zero_le _)) (fun l r3 h3 => ?_) (fun r c p hc he => her_get (fun n => by have h : r.1.f_e ≠ 0 := ep_ne hc he; simp only [must_e h, name_e h, num_e h, skip_e h, sees_e h, of_e h, fail_e h, whichK_e h, tagl_e h, movl_e h, varl_e h, stmtsu_e h, app_nil16, mk_eta, Option.bind_eq_bind, Option.bind_some, Option.getD_some, neg1, if_true, Bool.false_eq_true, if_false, Sum.elim_inr]) (by have h : r.1.f_e ≠ 0 := ep_ne hc he; simp only [must_e h, name_e h, num_e h, skip_e h, sees_e h, of_e h, fail_e h, whichK_e h, tagl_e h, movl_e h, varl_e h, stmtsu_e h, app_nil16, mk_eta, Option.bind_eq_bind, Option.bind_some, Option.getD_some, neg1, if_true, Bool.false_eq_true, if_false, Sum.elim_inr]; exact ⟨he.1, he.2⟩))
  have l3 := len_le (many_suf mMove_m _ _ _ _ h3) l2
  refine TP.bind (π' := Prod.fst) (mk' := mkRu) (must_T l3 _) (fun _ r4 h4 => TP.pure (fun n => rfl)) (fun r c p hc he => her_get (fun n => by have h : r.f_e ≠ 0 := ep_ne hc he; simp only [must_e h, name_e h, num_e h, skip_e h, sees_e h, of_e h, fail_e h, whichK_e h, tagl_e h, movl_e h, varl_e h, stmtsu_e h, app_nil16, mk_eta, Option.bind_eq_bind, Option.bind_some, Option.getD_some, neg1, if_true, Bool.false_eq_true, if_false, Sum.elim_inr]) (by have h : r.f_e ≠ 0 := ep_ne hc he; simp only [must_e h, name_e h, num_e h, skip_e h, sees_e h, of_e h, fail_e h, whichK_e h, tagl_e h, movl_e h, varl_e h, stmtsu_e h, app_nil16, mk_eta, Option.bind_eq_bind, Option.bind_some, Option.getD_some, neg1, if_true, Bool.false_eq_true, if_false, Sum.elim_inr]; exact ⟨he.1, he.2⟩))
theorem vars_T {ts : List Tok} (hl : ts.length ≤ 2000) : TP L 0 i Prod.fst (fun v a => (a, [] ++ v.map id)) 0 (fun _ => LF parse_reader_proc_l1 (PS L ts 0 i) []) (sMany (mVar L) (ts.length + 1) ts) := by
  refine many_T (cv := id) mVar_m (fun ts l ht hm => ?_) (fun ts o ht hm => ?_) (fun a l h => varb_e h l) _ ts [] (by omega) (by simp; omega)
  · unfold mVar at hm
    cases hs : sSees (ByteArray.mk #[118, 97, 114]) ts with
    | true => rw [hs] at hm; cases hm
    | false =>
      unfold parse_reader_proc_l1
      show (parse_reader_skip (PS L ts 0 i) _ >>= _) = _
      rw [skip_P ht, hs]; rfl
  · unfold mVar at hm
    cases hs : sSees (ByteArray.mk #[118, 97, 114]) ts with
    | false => rw [hs] at hm; cases hm
    | true =>
      rw [hs] at hm; injection hm with hm; subst hm
      have l0 : ts.tail.length ≤ 2000 := by have := sees_pos hs; omega
      refine ⟨parse_reader_name (PS L ts.tail 0 i) >>= fun v4 => parse_reader_must v4.1 (ByteArray.mk #[59]) >>= fun v6 => some (v6, v4.2), ?_, fun l hll => ?_⟩
      · refine TP.bind (π' := Prod.fst) (mk' := fun v a => (a, id v)) (name_T l0) (fun m r1 h1 => ?_) (fun r c p hc he => her_get (fun n => by have h : r.1.f_e ≠ 0 := ep_ne hc he; simp only [must_e h, name_e h, num_e h, Option.bind_eq_bind, Option.bind_some, Option.getD_some]) (by have h : r.1.f_e ≠ 0 := ep_ne hc he; simp only [must_e h, name_e h, num_e h, Option.bind_eq_bind, Option.bind_some, Option.getD_some]; exact ⟨he.1, he.2⟩))
        exact TP.bind (π' := Prod.fst) (mk' := fun v a => (a, id v)) (must_T (len_le (name_suf h1).1 l0) _) (fun _ r2 h2 => TP.pure (fun n => rfl)) (fun r c p hc he => ⟨(r, m), he, fun n => .inl rfl⟩)
      · unfold parse_reader_proc_l1
        show (parse_reader_skip (PS L ts 0 i) _ >>= _) = _
        rw [skip_P ht, hs]
        simp only [Option.bind_eq_bind, Option.bind_some, if_true, Option.bind_assoc]
        congr 1; funext v
        show (app 16 l [v.2]).bind _ = _
        rw [app_ok (by simp; omega)]; rfl
theorem body_T {ts : List Tok} {H : Nat} (hl : ts.length ≤ 2000) : TP L 0 0 Prod.fst mkL H (fun _ => parse_reader_stmts (PS L ts 0 0)) (sBody L ts) := by
  have h := (pt L (3 * ts.length + 2)).stmts 0 ts [] (by omega) hl (by simpa using hl)
  have h := TP.up (F := fun n => parse_reader_stmtsN n (PS L ts 0 0)) rfl (fun n => rfl) h
  have h := h.unf.mono (Nat.zero_le H)
  intro hne
  obtain ⟨r, g, s⟩ := h hne
  refine ⟨r, ?_, s⟩
  unfold sBody
  simpa using g
theorem proc_T {ts : List Tok} {H : Nat} (hl : ts.length ≤ 2000) : TP L 0 0 Prod.fst mkPr H (fun _ => parse_reader_proc (PS L ts 0 0)) (sProc L ts) := by
  refine TP.eq (y := fun _ => _) ?_ (fun _ => proc_eq _)
  unfold sProc
  refine TP.bind (π' := Prod.fst) (mk' := mkPr) (name_T hl) (fun m r1 h1 => ?_) (fun r c p hc he => her_get (fun n => by have h : r.1.f_e ≠ 0 := ep_ne hc he; simp only [must_e h, name_e h, num_e h, skip_e h, sees_e h, of_e h, fail_e h, whichK_e h, tagl_e h, movl_e h, varl_e h, stmtsu_e h, app_nil16, mk_eta, Option.bind_eq_bind, Option.bind_some, Option.getD_some, neg1, if_true, Bool.false_eq_true, if_false, Sum.elim_inr]) (by have h : r.1.f_e ≠ 0 := ep_ne hc he; simp only [must_e h, name_e h, num_e h, skip_e h, sees_e h, of_e h, fail_e h, whichK_e h, tagl_e h, movl_e h, varl_e h, stmtsu_e h, app_nil16, mk_eta, Option.bind_eq_bind, Option.bind_some, Option.getD_some, neg1, if_true, Bool.false_eq_true, if_false, Sum.elim_inr]; exact ⟨he.1, he.2⟩))
  have l1 := len_le (name_suf h1).1 hl
  refine TP.bind (π' := Prod.fst) (mk' := mkPr) (must_T l1 _) (fun _ r2 h2 => ?_) (fun r c p hc he => her_get (fun n => by have h : r.f_e ≠ 0 := ep_ne hc he; simp only [must_e h, name_e h, num_e h, skip_e h, sees_e h, of_e h, fail_e h, whichK_e h, tagl_e h, movl_e h, varl_e h, stmtsu_e h, app_nil16, mk_eta, Option.bind_eq_bind, Option.bind_some, Option.getD_some, neg1, if_true, Bool.false_eq_true, if_false, Sum.elim_inr]) (by have h : r.f_e ≠ 0 := ep_ne hc he; simp only [must_e h, name_e h, num_e h, skip_e h, sees_e h, of_e h, fail_e h, whichK_e h, tagl_e h, movl_e h, varl_e h, stmtsu_e h, app_nil16, mk_eta, Option.bind_eq_bind, Option.bind_some, Option.getD_some, neg1, if_true, Bool.false_eq_true, if_false, Sum.elim_inr]; exact ⟨he.1, he.2⟩))
  have l2 := len_le (must_suf h2).1 l1
  refine TP.bind (π' := Prod.fst) (mk' := mkPr) ((vars_T l2).mono (Nat.zero_le _)) (fun l r3 h3 => ?_) (fun r c p hc he => her_get (fun n => by have h : r.1.f_e ≠ 0 := ep_ne hc he; simp only [must_e h, name_e h, num_e h, skip_e h, sees_e h, of_e h, fail_e h, whichK_e h, tagl_e h, movl_e h, varl_e h, stmtsu_e h, app_nil16, mk_eta, Option.bind_eq_bind, Option.bind_some, Option.getD_some, neg1, if_true, Bool.false_eq_true, if_false, Sum.elim_inr]) (by have h : r.1.f_e ≠ 0 := ep_ne hc he; simp only [must_e h, name_e h, num_e h, skip_e h, sees_e h, of_e h, fail_e h, whichK_e h, tagl_e h, movl_e h, varl_e h, stmtsu_e h, app_nil16, mk_eta, Option.bind_eq_bind, Option.bind_some, Option.getD_some, neg1, if_true, Bool.false_eq_true, if_false, Sum.elim_inr]; exact ⟨he.1, he.2⟩))
  have l3 := len_le (many_suf mVar_m _ _ _ _ h3) l2
  refine TP.bind (π' := Prod.fst) (mk' := mkPr) (body_T l3) (fun b r4 h4 => ?_) (fun r c p hc he => her_get (fun n => by have h : r.1.f_e ≠ 0 := ep_ne hc he; simp only [must_e h, name_e h, num_e h, skip_e h, sees_e h, of_e h, fail_e h, whichK_e h, tagl_e h, movl_e h, varl_e h, stmtsu_e h, app_nil16, mk_eta, Option.bind_eq_bind, Option.bind_some, Option.getD_some, neg1, if_true, Bool.false_eq_true, if_false, Sum.elim_inr]) (by have h : r.1.f_e ≠ 0 := ep_ne hc he; simp only [must_e h, name_e h, num_e h, skip_e h, sees_e h, of_e h, fail_e h, whichK_e h, tagl_e h, movl_e h, varl_e h, stmtsu_e h, app_nil16, mk_eta, Option.bind_eq_bind, Option.bind_some, Option.getD_some, neg1, if_true, Bool.false_eq_true, if_false, Sum.elim_inr]; exact ⟨he.1, he.2⟩))
  have l4 := len_le (body_suf h4) l3
  refine TP.bind (π' := Prod.fst) (mk' := mkPr) (must_T l4 _) (fun _ r5 h5 => TP.pure (fun n => ?_)) (fun r c p hc he => her_get (fun n => by have h : r.f_e ≠ 0 := ep_ne hc he; simp only [must_e h, name_e h, num_e h, skip_e h, sees_e h, of_e h, fail_e h, whichK_e h, tagl_e h, movl_e h, varl_e h, stmtsu_e h, app_nil16, mk_eta, Option.bind_eq_bind, Option.bind_some, Option.getD_some, neg1, if_true, Bool.false_eq_true, if_false, Sum.elim_inr]) (by have h : r.f_e ≠ 0 := ep_ne hc he; simp only [must_e h, name_e h, num_e h, skip_e h, sees_e h, of_e h, fail_e h, whichK_e h, tagl_e h, movl_e h, varl_e h, stmtsu_e h, app_nil16, mk_eta, Option.bind_eq_bind, Option.bind_some, Option.getD_some, neg1, if_true, Bool.false_eq_true, if_false, Sum.elim_inr]; exact ⟨he.1, he.2⟩))
  simp [mkPr, cPr]
theorem chans_T {ts : List Tok} (hl : ts.length ≤ 2000) : TP L 0 0 Prod.fst (fun v a => (a, [] ++ v.map cCh)) 0 (fun _ => LF parse_Parse_l1 (PS L ts 0 0) []) (sMany (mChan L) (ts.length + 1) ts) := by
  refine many_T (cv := cCh) mChan_m (fun ts l ht hm => ?_) (fun ts o ht hm => ?_) (fun a l h => chab_e h l) _ ts [] (by omega) (by simp; omega)
  · unfold mChan at hm
    cases hs : sSees (ByteArray.mk #[99, 104, 97, 110]) ts with
    | true => rw [hs] at hm; cases hm
    | false =>
      unfold parse_Parse_l1
      show (parse_reader_skip (PS L ts 0 0) _ >>= _) = _
      rw [skip_P ht, hs]; rfl
  · unfold mChan at hm
    cases hs : sSees (ByteArray.mk #[99, 104, 97, 110]) ts with
    | false => rw [hs] at hm; cases hm
    | true =>
      rw [hs] at hm; injection hm with hm; subst hm
      have l0 : ts.tail.length ≤ 2000 := by have := sees_pos hs; omega
      refine ⟨parse_reader_channel (PS L ts.tail 0 0), chan_T l0, fun l hll => ?_⟩
      unfold parse_Parse_l1
      show (parse_reader_skip (PS L ts 0 0) _ >>= _) = _
      rw [skip_P ht, hs]
      simp only [Option.bind_eq_bind, Option.bind_some, if_true]
      congr 1; funext v
      show (app 88 l [v.2]).bind _ = _
      rw [app_ok (by simp; omega)]; rfl
theorem rules_T {ts : List Tok} (hl : ts.length ≤ 2000) : TP L 0 0 Prod.fst (fun v a => (a, [] ++ v.map cRu)) 0 (fun _ => LF parse_Parse_l2 (PS L ts 0 0) []) (sMany (mRule L) (ts.length + 1) ts) := by
  refine many_T (cv := cRu) mRule_m (fun ts l ht hm => ?_) (fun ts o ht hm => ?_) (fun a l h => rulb_e h l) _ ts [] (by omega) (by simp; omega)
  · unfold mRule at hm
    cases hs : sSees (ByteArray.mk #[114, 117, 108, 101]) ts with
    | true => rw [hs] at hm; cases hm
    | false =>
      unfold parse_Parse_l2
      show (parse_reader_skip (PS L ts 0 0) _ >>= _) = _
      rw [skip_P ht, hs]; rfl
  · unfold mRule at hm
    cases hs : sSees (ByteArray.mk #[114, 117, 108, 101]) ts with
    | false => rw [hs] at hm; cases hm
    | true =>
      rw [hs] at hm; injection hm with hm; subst hm
      have l0 : ts.tail.length ≤ 2000 := by have := sees_pos hs; omega
      refine ⟨parse_reader_rule (PS L ts.tail 0 0), rule_T l0, fun l hll => ?_⟩
      unfold parse_Parse_l2
      show (parse_reader_skip (PS L ts 0 0) _ >>= _) = _
      rw [skip_P ht, hs]
      simp only [Option.bind_eq_bind, Option.bind_some, if_true]
      congr 1; funext v
      show (app 40 l [v.2]).bind _ = _
      rw [app_ok (by simp; omega)]; rfl
theorem procs_T {ts : List Tok} (hl : ts.length ≤ 2000) : TP L 0 0 Prod.fst (fun v a => (a, [] ++ v.map cPr)) 0 (fun _ => LF parse_Parse_l3 (PS L ts 0 0) []) (sMany (mProc L) (ts.length + 1) ts) := by
  refine many_T (cv := cPr) mProc_m (fun ts l ht hm => ?_) (fun ts o ht hm => ?_) (fun a l h => prob_e h l) _ ts [] (by omega) (by simp; omega)
  · unfold mProc at hm
    cases hs : sSees (ByteArray.mk #[112, 114, 111, 99]) ts with
    | true => rw [hs] at hm; cases hm
    | false =>
      unfold parse_Parse_l3
      show (parse_reader_skip (PS L ts 0 0) _ >>= _) = _
      rw [skip_P ht, hs]; rfl
  · unfold mProc at hm
    cases hs : sSees (ByteArray.mk #[112, 114, 111, 99]) ts with
    | false => rw [hs] at hm; cases hm
    | true =>
      rw [hs] at hm; injection hm with hm; subst hm
      have l0 : ts.tail.length ≤ 2000 := by have := sees_pos hs; omega
      refine ⟨parse_reader_proc (PS L ts.tail 0 0), proc_T l0, fun l hll => ?_⟩
      unfold parse_Parse_l3
      show (parse_reader_skip (PS L ts 0 0) _ >>= _) = _
      rw [skip_P ht, hs]
      simp only [Option.bind_eq_bind, Option.bind_some, if_true]
      congr 1; funext v
      show (app 64 l [v.2]).bind _ = _
      rw [app_ok (by simp; omega)]; rfl

end
/-! ### Whole texts -/
noncomputable def pAll (a : parse_reader) : Option (parse_reader × ast_System) := LF parse_Parse_l1 a [] >>= fun c => LF parse_Parse_l2 c.1 [] >>= fun r => LF parse_Parse_l3 r.1 [] >>= fun p => some (p.1, ⟨c.2, r.2, p.2⟩)
noncomputable def pFin (v : parse_reader × ast_System) : Option (ast_System × Int × Int) :=
  if (decide ((v.1.f_l.length : Int) > 0)) then (parse_reader_fail v.1 5 >>= fun w => if (w.f_e != 0) then some ((ast_System.mk [] [] []), w.f_at, w.f_e) else some (v.2, 0, 0))
  else (if (v.1.f_e != 0) then some ((ast_System.mk [] [] []), v.1.f_at, v.1.f_e) else some (v.2, 0, 0))
theorem parse_eq (s : ByteArray) : parse_Parse s = lex_Lex s >>= fun v1 => if (v1.2.2 != 0) then some ((ast_System.mk [] [] []), v1.2.1, v1.2.2) else pAll ⟨v1.1, (s.size : Int), 0, 0, 0, 0⟩ >>= pFin := by
  unfold pAll
  simp only [Option.bind_eq_bind, Option.bind_assoc, Option.bind_some]
  simp only [← Option.bind_eq_bind, ← LF_use]
  rfl
section
variable {L : Int} {ts : List Tok}
theorem all_T (hl : ts.length ≤ 2000) : TP L 0 0 Prod.fst (fun v a => (a, cSys v)) 0 (fun _ => pAll (PS L ts 0 0)) (sSys L ts) := by
  unfold sSys pAll
  refine TP.bind (π' := Prod.fst) (mk' := fun v a => (a, cSys v)) (chans_T hl) (fun c r1 h1 => ?_) (fun r c p hc he => ⟨(r.1, ⟨r.2, [], []⟩), he, fun n => .inl (by rw [LF_end (rulb_e (ep_ne hc he) [])]; show (LF parse_Parse_l3 r.1 [] >>= _) = _; rw [LF_end (prob_e (ep_ne hc he) [])]; rfl)⟩)
  have l1 := len_le (many_suf mChan_m _ _ _ _ h1) hl
  refine TP.bind (π' := Prod.fst) (mk' := fun v a => (a, cSys v)) (rules_T l1) (fun d r2 h2 => ?_) (fun r cc p hc he => ⟨(r.1, ⟨c.map cCh, r.2, []⟩), he, fun n => .inl (by rw [LF_end (prob_e (ep_ne hc he) [])]; rfl)⟩)
  have l2 := len_le (many_suf mRule_m _ _ _ _ h2) l1
  exact TP.bind (π' := Prod.fst) (mk' := fun v a => (a, cSys v)) (procs_T l2) (fun d r2 h2 => TP.pure (fun n => rfl)) (fun r cc p hc he => ⟨(r.1, ⟨c.map cCh, d.map cRu, r.2⟩), he, fun n => .inl rfl⟩)
/-- What the program parses. -/
theorem parse_P {s : ByteArray} {p : Int} (hs : lex_Lex s = some (ts.map tokT, p, 0)) (hl : ts.length ≤ 2000) : parse_Parse s = some (match sAll (s.size : Int) ts with
    | .ok v _ => (cSys v, 0, 0)
    | .er c p => (⟨[], [], []⟩, p, c)
    | .out => (⟨[], [], []⟩, 0, 0)) := by
  rw [parse_eq, hs]
  show (pAll (PS (s.size : Int) ts 0 0) >>= pFin) = _
  obtain ⟨r, g, q⟩ := all_T (L := (s.size : Int)) hl sys_ne
  have q : pAll (PS (s.size : Int) ts 0 0) = some r := by
    rcases q 0 with q | ⟨_, q⟩
    · exact q
    · omega
  rw [q]
  show pFin r = _
  unfold sAll
  cases hv : sSys (s.size : Int) ts with
  | ok v rest =>
    rw [hv] at g
    have g : r = (PS (s.size : Int) rest 0 0, cSys v) := g
    subst g
    cases rest with
    | nil => rfl
    | cons t rest =>
      unfold pFin
      rw [if_pos (by simp [PS])]
      show (parse_reader_fail (PS _ _ 0 0) 5 >>= _) = _
      rw [fail_P]; rfl
  | er c p =>
    rw [hv] at g
    obtain ⟨hc, he⟩ := g
    have h : r.1.f_e ≠ 0 := ep_ne hc he
    have h1 : (r.1.f_e != 0) = true := e1 h
    unfold pFin
    rw [fail_e h]
    simp only [Option.bind_eq_bind, Option.bind_some, h1, if_true, ite_self]
    rw [he.1, he.2]; rfl
  | out => exact absurd hv sys_ne
end
end Go.Proofs.YtokjbpmjdcbogaaGreatDoor.Abs.Par
