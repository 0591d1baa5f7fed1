/- The statements' own reader reads as parsing does: signs, names, expressions. -/
import Derived.Test.YtokjbpmjdcbogaaGreatDoorParQ
import Derived.KernelRfl
namespace Go.Proofs.YtokjbpmjdcbogaaGreatDoor.Abs.Par
open Go Go.RowKit Wri
set_option linter.unusedVariables false
set_option linter.unusedSimpArgs false
def RS (L : Int) (full ts : List Tok) : r03_Reader := ⟨full.map tokR, ((full.length - ts.length : Nat) : Int), L, 0, 0⟩
def ER (a : r03_Reader) (c p : Int) : Prop := a.E = c ∧ a.At = p
def Sf (full ts : List Tok) : Prop := ts <:+ full ∧ full.length ≤ 2000
section
variable {ρ ρ' β γ : Type} {L : Int} {full : List Tok} {π : ρ → r03_Reader} {mk : β → r03_Reader → ρ} {π' : ρ' → r03_Reader} {mk' : γ → r03_Reader → ρ'} {H : Nat}
def GR (L : Int) (full : List Tok) (π : ρ → r03_Reader) (mk : β → r03_Reader → ρ) : Rs β → ρ → Prop
  | .ok v ts, r => r = mk v (RS L full ts)
  | .er c p, r => c ≠ 0 ∧ ER (π r) c p
  | .out, _ => False
def TR (L : Int) (full : List Tok) (π : ρ → r03_Reader) (mk : β → r03_Reader → ρ) (H : Nat) (x : Nat → Option ρ) (o : Rs β) : Prop := o ≠ .out → ∃ r, GR L full π mk o r ∧ ∀ n, Sn n H (x n) r
theorem TR.bind {x : Nat → Option ρ} {o : Rs β} {k : Nat → ρ → Option ρ'} {k' : β → List Tok → Rs γ} (h : TR L full π mk H x o) (hok : ∀ v ts, o = .ok v ts → TR L full π' mk' H (fun n => k n (mk v (RS L full ts))) (k' v ts))
    (her : ∀ r c p, c ≠ 0 → ER (π r) c p → ∃ r', ER (π' r') c p ∧ ∀ n, Sn n H (k n r) r') : TR L full π' mk' H (fun n => x n >>= k n) (o.bind k') := by
  intro hne
  cases o with
  | ok v ts =>
    obtain ⟨r, hr, hs⟩ := h (by simp)
    have hr : r = mk v (RS L full ts) := hr
    subst hr
    obtain ⟨r', g', s'⟩ := hok v ts rfl hne
    exact ⟨r', g', fun n => Sn.bind (f := k n) (hs n) (s' n)⟩
  | er c p =>
    obtain ⟨r, ⟨hc, he⟩, hs⟩ := h (by simp)
    obtain ⟨r', he', s'⟩ := her r c p hc he
    exact ⟨r', ⟨hc, he'⟩, fun n => Sn.bind (f := k n) (hs n) (s' n)⟩
  | out => exact absurd rfl hne
theorem TR.pure {x : Nat → Option ρ} {v : β} {ts : List Tok} (e : ∀ n, x n = some (mk v (RS L full ts))) : TR L full π mk H x (.ok v ts) := fun _ => ⟨_, rfl, fun n => .inl (e n)⟩
theorem TR.err {x : Nat → Option ρ} {r : ρ} {c p : Int} (e : ∀ n, x n = some r) (hc : c ≠ 0) (hp : ER (π r) c p) : TR L full π mk H x (.er c p) := fun _ => ⟨r, ⟨hc, hp⟩, fun n => .inl (e n)⟩
theorem TR.up {F x : Nat → Option ρ} {o : Rs β} (h0 : F 0 = none) (h1 : ∀ n, F (n + 1) = x n) (h : TR L full π mk H x o) : TR L full π mk (H + 1) F o := by
  intro hne
  obtain ⟨r, g, s⟩ := h hne
  refine ⟨r, g, fun n => ?_⟩
  cases n with
  | zero => exact .inr ⟨h0, by omega⟩
  | succ n => rw [h1]; exact (s n).up
theorem TR.mono {x : Nat → Option ρ} {o : Rs β} {H' : Nat} (h : TR L full π mk H x o) (hh : H ≤ H') : TR L full π mk H' x o := fun hne => by
  obtain ⟨r, g, s⟩ := h hne
  exact ⟨r, g, fun n => (s n).mono hh⟩
theorem TR.eq {x y : Nat → Option ρ} {o : Rs β} (h : TR L full π mk H y o) (e : ∀ n, x n = y n) : TR L full π mk H x o := by
  rw [show x = y from funext e]; exact h
theorem TR.unf {x : Nat → Option ρ} {o : Rs β} (h : TR L full π mk H x o) : TR L full π mk 0 (fun _ => unf x) o := fun hne => by
  obtain ⟨r, g, s⟩ := h hne
  exact ⟨r, g, fun n => .inl (Sn.unf s)⟩
theorem tr_out {x : Nat → Option ρ} : TR L full π mk H x (.out : Rs β) := fun h => absurd rfl h
end
theorem TR.map {ρ β γ : Type} {L : Int} {full : List Tok} {π : ρ → r03_Reader} {mk : β → r03_Reader → ρ} {mk' : γ → r03_Reader → ρ} {H : Nat} {x : Nat → Option ρ} {o : Rs β} {g : β → γ}
    (h : TR L full π mk H x o) (e : ∀ v a, mk v a = mk' (g v) a) : TR L full π mk' H x (o.bind fun v r => .ok (g v) r) := by
  intro hne
  cases o with
  | ok v ts =>
    obtain ⟨r, hr, hs⟩ := h (by simp)
    exact ⟨r, Eq.trans hr (e v _), hs⟩
  | er c p => exact h (by simp)
  | out => exact absurd rfl hne
theorem er_ne {a : r03_Reader} {c p : Int} (hc : c ≠ 0) (h : ER a c p) : a.E ≠ 0 := by rw [h.1]; exact hc
/-! ### Signs and names -/
section
variable {full ts : List Tok}
theorem Sf.suf {r : List Tok} (h : Sf full ts) (q : r <:+ ts) : Sf full r := ⟨q.trans h.1, h.2⟩
theorem Sf.tail (h : Sf full ts) : Sf full ts.tail := h.suf (List.tail_suffix ts)
theorem Sf.len (h : Sf full ts) : ts.length ≤ 2000 := Nat.le_trans h.1.length_le h.2
theorem Sf.hdx {t : Tok} {r : List Tok} (h : Sf full (t :: r)) : idx (full.map tokR) ((full.length - (t :: r).length : Nat) : Int) = some (tokR t) := by
  obtain ⟨⟨pre, h1⟩, h2⟩ := h
  subst h1
  have hk : (pre ++ t :: r).length - (t :: r).length = pre.length := by simp
  have hlt : pre.length < ((pre ++ t :: r).map tokR).length := by simp
  rw [hk, idx_ok hlt]
  simp
theorem Sf.idxI {L : Int} {t : Tok} {r : List Tok} (h : Sf full (t :: r)) : idx (full.map tokR) (RS L full (t :: r)).I = some (tokR t) := h.hdx
theorem Sf.lt {t : Tok} {r : List Tok} (h : Sf full (t :: r)) : full.length - (t :: r).length < full.length := by
  have := h.1.length_le
  simp only [List.length_cons] at this ⊢; omega
theorem Sf.nx {t : Tok} {r : List Tok} (h : Sf full (t :: r)) : IntKind.i64.wrap (((full.length - (t :: r).length : Nat) : Int) + 1) = ((full.length - r.length : Nat) : Int) := by
  have := h.1.length_le
  have := h.2
  simp only [List.length_cons] at *
  rw [w64 (by omega) (by omega)]; omega
theorem Sf.pv {t : Tok} {r : List Tok} (h : Sf full (t :: r)) : IntKind.i64.wrap (((full.length - r.length : Nat) : Int) - 1) = ((full.length - (t :: r).length : Nat) : Int) := by
  have := h.1.length_le
  have := h.2
  simp only [List.length_cons] at *
  rw [w64 (by omega) (by omega)]; omega
end
section
variable {L : Int} {full ts : List Tok} (h : Sf full ts)
include h
theorem isnil_R : decide ((RS L full ts).I < ((RS L full ts).L.length : Int)) = decide (ts ≠ []) := by
  cases ts with
  | nil => simp [RS]
  | cons t r =>
    have := h.lt
    have h1 : (RS L full (t :: r)).I < ((RS L full (t :: r)).L.length : Int) := by show ((full.length - (t :: r).length : Nat) : Int) < ((full.map tokR).length : Int); rw [List.length_map]; omega
    simp [h1]
theorem is_R (w : ByteArray) : r03_Reader_is (RS L full ts) w = some (sSees w ts) := by
  unfold r03_Reader_is
  rw [if_pos (by rfl), isnil_R h]
  cases ts with
  | nil => rfl
  | cons t r =>
    rw [if_pos (by simp)]
    show (idx (full.map tokR) _).bind _ = _
    rw [h.idxI]
    have e : (tokR t).Kind = t.kind := rfl
    have e2 : (tokR t).Text.data.toList = t.text := by simp [tokR]
    simp only [Option.bind_some, e, e2, sSees, Go.ByteArray.toList_eq]
    cases (t.text == w.data.toList) <;> simp
theorem fail_R (c : Int) : r03_Reader_fail (RS L full ts) c = some ⟨full.map tokR, (RS L full ts).I, L, c, sAt L ts⟩ := by
  unfold r03_Reader_fail
  rw [if_neg (by simp [RS]), isnil_R h]
  cases ts with
  | nil => rfl
  | cons t r =>
    rw [if_pos (by simp)]
    show (idx (full.map tokR) _).bind _ = _
    rw [h.idxI]; rfl
theorem adv_R {w : ByteArray} (hs : sSees w ts = true) : r03_Reader.mk (RS L full ts).L (IntKind.i64.wrap ((RS L full ts).I + 1)) (RS L full ts).End (RS L full ts).E (RS L full ts).At = RS L full ts.tail := by
  cases ts with
  | nil => cases hs
  | cons t r =>
    show r03_Reader.mk (full.map tokR) (IntKind.i64.wrap (((full.length - (t :: r).length : Nat) : Int) + 1)) L 0 0 = _
    rw [h.nx]; rfl
theorem must_R (w : ByteArray) : r03_Reader_must (RS L full ts) w = some (if sSees w ts then RS L full ts.tail else ⟨full.map tokR, (RS L full ts).I, L, 5, sAt L ts⟩) := by
  unfold r03_Reader_must
  rw [is_R h]
  cases hs : sSees w ts with
  | false => simp [fail_R h]
  | true =>
    simp only [Option.bind_eq_bind, Option.bind_some, Bool.not_true, Bool.false_eq_true, if_false, if_true]
    rw [adv_R h hs]
abbrev mkMr : Unit → r03_Reader → r03_Reader := fun _ a => a
abbrev mkVr {α : Type} : α → r03_Reader → r03_Reader × α := fun v a => (a, v)
theorem must_TR {H : Nat} (w : ByteArray) : TR L full id mkMr H (fun _ => r03_Reader_must (RS L full ts) w) (sMust L w ts) := by
  unfold sMust
  cases hs : sSees w ts with
  | true => exact TR.pure (fun n => by rw [must_R h, hs]; rfl)
  | false => exact TR.err (r := ⟨full.map tokR, (RS L full ts).I, L, 5, sAt L ts⟩) (fun n => by rw [must_R h, hs]; rfl) (by decide) ⟨rfl, rfl⟩
theorem name_TR {H : Nat} : TR L full Prod.fst mkVr H (fun _ => r03_Reader_name (RS L full ts)) (sName L ts) := by
  unfold r03_Reader_name
  rw [if_neg (by simp [RS])]
  cases ts with
  | nil =>
    rw [if_pos (by simp [RS])]
    refine TR.err (r := (⟨full.map tokR, (RS L full []).I, L, 5, L⟩, nB)) (fun n => ?_) (by decide) ⟨rfl, rfl⟩
    simp only [Option.bind_eq_bind, Option.bind_some, if_true, fail_R h]; rfl
  | cons t r =>
    have h1 : decide ((RS L full (t :: r)).I ≥ ((RS L full (t :: r)).L.length : Int)) = false := by
      have := h.lt
      have h1 : (RS L full (t :: r)).I < ((RS L full (t :: r)).L.length : Int) := by show ((full.length - (t :: r).length : Nat) : Int) < ((full.map tokR).length : Int); rw [List.length_map]; omega
      simp; exact h1
    have hi : idx (RS L full (t :: r)).L (RS L full (t :: r)).I = some (tokR t) := h.hdx
    rw [h1, if_neg (by decide), hi]
    have e : (tokR t).Kind = t.kind := rfl
    simp only [sName, Option.bind_eq_bind, Option.bind_some, e]
    cases hk : (t.kind == 1) with
    | true =>
      have hk' : (t.kind != 1) = false := by simp [bne, hk]
      refine TR.pure (fun n => ?_)
      rw [hk', if_neg (by decide)]
      have w1 : IntKind.i64.wrap ((RS L full (t :: r)).I + 1) = ((full.length - r.length : Nat) : Int) := h.nx
      have w2 : IntKind.i64.wrap (((full.length - r.length : Nat) : Int) - 1) = (RS L full (t :: r)).I := h.pv
      rw [w1, w2, hi]; rfl
    | false =>
      have hk' : (t.kind != 1) = true := by simp [bne, hk]
      refine TR.err (r := (⟨full.map tokR, (RS L full (t :: r)).I, L, 5, (t.at_ : Int)⟩, nB)) (fun n => ?_) (by decide) ⟨rfl, rfl⟩
      rw [hk', if_pos rfl, fail_R h]; rfl
theorem num_TR {H : Nat} : TR L full Prod.fst mkVr H (fun _ => r03_Reader_number (RS L full ts)) (sNum L ts) := by
  unfold r03_Reader_number
  rw [if_neg (by simp [RS])]
  cases ts with
  | nil =>
    rw [if_pos (by simp [RS])]
    refine TR.err (r := (⟨full.map tokR, (RS L full []).I, L, 5, L⟩, 0)) (fun n => ?_) (by decide) ⟨rfl, rfl⟩
    simp only [Option.bind_eq_bind, Option.bind_some, if_true, fail_R h]; rfl
  | cons t r =>
    have h1 : decide ((RS L full (t :: r)).I ≥ ((RS L full (t :: r)).L.length : Int)) = false := by
      have := h.lt
      have h1 : (RS L full (t :: r)).I < ((RS L full (t :: r)).L.length : Int) := by show ((full.length - (t :: r).length : Nat) : Int) < ((full.map tokR).length : Int); rw [List.length_map]; omega
      simp; exact h1
    have hi : idx (RS L full (t :: r)).L (RS L full (t :: r)).I = some (tokR t) := h.hdx
    rw [h1, if_neg (by decide), hi]
    have e : (tokR t).Kind = t.kind := rfl
    simp only [sNum, Option.bind_eq_bind, Option.bind_some, e]
    cases hk : (t.kind == 2) with
    | true =>
      have hk' : (t.kind != 2) = false := by simp [bne, hk]
      refine TR.pure (fun n => ?_)
      rw [hk', if_neg (by decide)]
      have w1 : IntKind.i64.wrap ((RS L full (t :: r)).I + 1) = ((full.length - r.length : Nat) : Int) := h.nx
      have w2 : IntKind.i64.wrap (((full.length - r.length : Nat) : Int) - 1) = (RS L full (t :: r)).I := h.pv
      rw [w1, w2, hi]; rfl
    | false =>
      have hk' : (t.kind != 2) = true := by simp [bne, hk]
      refine TR.err (r := (⟨full.map tokR, (RS L full (t :: r)).I, L, 5, (t.at_ : Int)⟩, 0)) (fun n => ?_) (by decide) ⟨rfl, rfl⟩
      rw [hk', if_pos rfl, fail_R h]; rfl
end
/-! ### Where there is an error, nothing is done -/
section
variable {a : r03_Reader} (h : a.E ≠ 0)
include h
theorem ise (w : ByteArray) : r03_Reader_is a w = some false := by unfold r03_Reader_is; rw [if_neg (by simp [h])]
theorem faile (c : Int) : r03_Reader_fail a c = some a := by unfold r03_Reader_fail; rw [if_pos (by simp [h])]
theorem muste (w : ByteArray) : r03_Reader_must a w = some a := by
  unfold r03_Reader_must; rw [ise h]
  simp only [Option.bind_eq_bind, Option.bind_some, Bool.not_false, if_true, faile h]
theorem namee : r03_Reader_name a = some (a, nB) := by
  unfold r03_Reader_name
  rw [if_pos (by simp [h])]
  simp only [Option.bind_eq_bind, Option.bind_some, if_true, faile h]
theorem nume : r03_Reader_number a = some (a, 0) := by
  unfold r03_Reader_number
  rw [if_pos (by simp [h])]
  simp only [Option.bind_eq_bind, Option.bind_some, if_true, faile h]
end
/-! ### Which sign -/
def firstW (see : ByteArray → Bool) : List ByteArray → Option Nat
  | [] => none
  | w :: l => if see w then some 0 else (firstW see l).map (· + 1)
theorem first_which (ts : List Tok) : ∀ ws, sWhich ws ts = firstW (fun w => sSees w ts) ws
  | [] => rfl
  | w :: l => by simp only [sWhich, firstW, first_which ts l]
theorem first_none {see : ByteArray → Bool} : ∀ {ws : List ByteArray}, (∀ w ∈ ws, see w = false) → firstW see ws = none
  | [], _ => rfl
  | w :: l, h => by simp [firstW, h w (by simp), first_none (ws := l) (fun w hw => h w (by simp [hw]))]
theorem sees_one {ts : List Tok} {w w' : ByteArray} (h : sSees w ts = true) (h' : sSees w' ts = true) : w = w' := by
  cases ts with
  | nil => cases h
  | cons t r =>
    simp only [sSees, Bool.and_eq_true, beq_iff_eq] at h h'
    have : w.data.toList = w'.data.toList := h.2.symm.trans h'.2
    cases w; cases w'; simp at this; simp [this]
theorem last_it {X O Y : Type} {body : X → Option (Sum X (Sum O Y))} {see : ByteArray → Bool} {ws : List ByteArray} (st : Int → Int → X) (out : Int → Y) (val : Int → Int)
    (h1 : ∀ w w', see w = true → see w' = true → w = w') (hn : ws.Nodup)
    (hb : ∀ (k : Nat) w best, k < ws.length → idx ws (k : Int) = some w → body (st k best) = some (.inl (st ((k + 1 : Nat) : Int) (if see w then val k else best))))
    (he : ∀ best, body (st (ws.length : Int) best) = some (.inr (.inr (out best)))) : ∀ (m : List ByteArray) (k : Nat) best, ws.drop k = m → k ≤ ws.length →
      iter body (st k best) = some (.inr (out (match firstW see m with | some j => val ((k + j : Nat) : Int) | none => best))) := by
  intro m
  induction m with
  | nil =>
    intro k best hd hk
    have : k = ws.length := by have := List.drop_eq_nil_iff.1 hd; omega
    subst this
    exact iter_out (he best)
  | cons w m ih =>
    intro k best hd hk
    have hlt : k < ws.length := by
      refine Nat.lt_of_not_le fun h => ?_
      rw [List.drop_of_length_le h] at hd; cases hd
    have hnd : (w :: m).Nodup := by rw [← hd]; exact hn.sublist (List.drop_sublist k ws)
    rw [List.drop_eq_getElem_cons hlt] at hd
    injection hd with e1 e2
    have hi : idx ws (k : Int) = some w := by rw [idx_ok hlt, e1]
    rw [iter_in (hb k w best hlt hi), ih (k + 1) _ e2 hlt]
    simp only [firstW]
    cases hs : see w with
    | true =>
      rw [first_none (ws := m) (fun w' hw' => by
        cases hs' : see w' with
        | false => rfl
        | true =>
          have := h1 _ _ hs hs'; subst this
          exact absurd hw' (List.nodup_cons.1 hnd).1)]
      simp
    | false =>
      cases firstW see m with
      | none => simp
      | some j => simp only [Bool.false_eq_true, if_false, Option.map_some, show k + 1 + j = k + (j + 1) by omega]
theorem last_it0 {X O Y : Type} {body : X → Option (Sum X (Sum O Y))} {see : ByteArray → Bool} {ws : List ByteArray} (st : Int → Int → X) (out : Int → Y) (val : Int → Int)
    (h1 : ∀ w w', see w = true → see w' = true → w = w') (hn : ws.Nodup)
    (hb : ∀ (k : Nat) w best, k < ws.length → idx ws (k : Int) = some w → body (st k best) = some (.inl (st ((k + 1 : Nat) : Int) (if see w then val k else best))))
    (he : ∀ best, body (st (ws.length : Int) best) = some (.inr (.inr (out best)))) (best : Int) :
      iter body (st 0 best) = some (.inr (out (match firstW see ws with | some j => val (j : Int) | none => best))) := by
  have := last_it st out val h1 hn hb he ws 0 best rfl (by omega)
  simpa using this
theorem which_sees {ts : List Tok} : ∀ {ws : List ByteArray} {j : Nat}, sWhich ws ts = some j → ∃ w, sSees w ts = true
  | [], j, h => by cases h
  | w :: l, j, h => by
    simp only [sWhich] at h
    split at h
    · exact ⟨w, by assumption⟩
    · cases hq : sWhich l ts with
      | none => rw [hq] at h; cases h
      | some i => exact which_sees hq
/-! ### Expressions -/
abbrev X9 := List r01_Token × Int × Int × Int × Int × Int × Int × ByteArray × List r02_Expr
def tpX (a : r03_Reader) (e : r02_Expr) : X9 := (a.L, a.I, a.End, a.E, a.At, e.Kind, e.Num, e.Name, e.Kids)
def finX (j1 : X9) : Option (r03_Reader × r02_Expr) := some ((r03_Reader.mk j1.1 j1.2.1 j1.2.2.1 j1.2.2.2.1 j1.2.2.2.2.1), (r02_Expr.mk j1.2.2.2.2.2.1 j1.2.2.2.2.2.2.1 j1.2.2.2.2.2.2.2.1 j1.2.2.2.2.2.2.2.2))
noncomputable def B6 (n : Nat) (d : Int) := r03_Reader_chain_l1 (r03_Reader_exprN n) (r03_Reader_chainN n) (r03_Reader_factorN n) d mulS 6
noncomputable def B4 (n : Nat) (d : Int) := r03_Reader_chain_l4 (r03_Reader_exprN n) (r03_Reader_chainN n) (r03_Reader_factorN n) d addS 4
noncomputable def C6 (n : Nat) (d : Int) (a : r03_Reader) (e : r02_Expr) : Option (r03_Reader × r02_Expr) := iter (B6 n d) (tpX a e) >>= Sum.elim (fun _ => none) finX
noncomputable def C4 (n : Nat) (d : Int) (a : r03_Reader) (e : r02_Expr) : Option (r03_Reader × r02_Expr) := iter (B4 n d) (tpX a e) >>= Sum.elim (fun _ => none) finX
def vR : r02_Expr := ⟨2, 0, nB, []⟩
section
variable {a : r03_Reader} (h : a.E ≠ 0)
include h
theorem C6_e (n : Nat) (d : Int) (e : r02_Expr) : C6 n d a e = some (a, e) := by
  obtain ⟨k, m, s, l⟩ := e
  unfold C6
  rw [iter_out (r := .inr (tpX a ⟨k, m, s, l⟩)) (by
    unfold B6 r03_Reader_chain_l1
    rw [if_neg (by simpa [tpX] using h)])]
  rfl
theorem C4_e (n : Nat) (d : Int) (e : r02_Expr) : C4 n d a e = some (a, e) := by
  obtain ⟨k, m, s, l⟩ := e
  unfold C4
  rw [iter_out (r := .inr (tpX a ⟨k, m, s, l⟩)) (by
    unfold B4 r03_Reader_chain_l4
    rw [if_neg (by simpa [tpX] using h)])]
  rfl
theorem factore (n : Nat) (d : Int) : Sn n 1 (r03_Reader_factorN n a d) (a, vR) := by
  cases n with
  | zero => exact .inr ⟨rfl, by omega⟩
  | succ n =>
    refine .inl ?_
    have h0 : (a.E == 0) = false := by simpa using h
    simp only [r03_Reader_factorN, ise h, namee h, h0, Option.bind_eq_bind, Option.bind_some, Bool.false_eq_true, if_false]
    rfl
theorem chain6e (n : Nat) (d : Int) : Sn n 2 (r03_Reader_chainN n a d mulS 6) (a, vR) := by
  cases n with
  | zero => exact .inr ⟨rfl, by omega⟩
  | succ n =>
    simp only [r03_Reader_chainN]
    exact (Sn.bind (f := fun v1 => C6 n d v1.1 v1.2) (factore h n d) (.inl (C6_e h n d vR))).up
theorem chain4e (n : Nat) (d : Int) : Sn n 3 (r03_Reader_chainN n a d addS 4) (a, vR) := by
  cases n with
  | zero => exact .inr ⟨rfl, by omega⟩
  | succ n =>
    simp only [r03_Reader_chainN]
    exact (Sn.bind (f := fun v1 => C4 n d v1.1 v1.2) (chain6e h n d) (.inl (C4_e h n d vR))).up
theorem expre (d : Int) : r03_Reader_expr a d = some (a, vR) := Sn.unf (h := 4) fun n => by
  cases n with
  | zero => exact .inr ⟨rfl, by omega⟩
  | succ n =>
    simp only [r03_Reader_exprN]
    exact (Sn.bind (f := fun v1 => some (v1.1, v1.2)) (chain4e h n d) (.inl rfl)).up
end
section
variable {L : Int} {full ts : List Tok} {d : Int}
theorem C6_eq (hl : Sf full ts) (n : Nat) (e : r02_Expr) : C6 n d (RS L full ts) e = match sWhich mulS ts with
    | none => some (RS L full ts, e)
    | some j => r03_Reader_factorN n (RS L full ts.tail) d >>= fun v => C6 n d v.1 ⟨6 + (j : Int), 0, ByteArray.mk #[], [e, v.2]⟩ := by
  obtain ⟨ek, em, es, el⟩ := e
  have hw : iter (r03_Reader_chain_l2 (r03_Reader_exprN n) (r03_Reader_chainN n) (r03_Reader_factorN n) mulS (tpX (RS L full ts) ⟨ek, em, es, el⟩)) ((-1), 0) = some (.inr (match sWhich mulS ts with | some j => (j : Int) | none => -1)) := by
    rw [first_which]
    refine last_it0 (see := fun w => sSees w ts) (ws := mulS) (fun k b => (b, k)) id id (fun w w' h h' => sees_one h h') (by decide) (fun k w best hk hi => ?_) (fun best => ?_) (-1)
    · unfold r03_Reader_chain_l2
      rw [if_pos (by simpa using hk)]
      have hi' : idx mulS (k : Int) = some w := hi
      show ((idx mulS (k : Int) >>= fun v2 => r03_Reader_is (RS L full ts) v2 >>= fun v3 => if v3 then some (k : Int) else some best : Option Int) >>= _) = _
      rw [hi']
      have hk3 : k < 3 := Nat.lt_of_lt_of_le hk (by decide)
      have wk : IntKind.i64.wrap ((k : Int) + 1) = ((k + 1 : Nat) : Int) := by rw [w64 (by omega) (by omega)]; omega
      simp only [Option.bind_eq_bind, Option.bind_some, is_R hl, wk]
      cases sSees w ts <;> rfl
    · unfold r03_Reader_chain_l2
      rw [if_neg (by simp)]; rfl
  have hb : B6 n d (tpX (RS L full ts) ⟨ek, em, es, el⟩) = match sWhich mulS ts with
      | none => some (.inr (.inr (tpX (RS L full ts) ⟨ek, em, es, el⟩)))
      | some j => r03_Reader_factorN n (RS L full ts.tail) d >>= fun v => some (.inl (tpX v.1 ⟨6 + (j : Int), 0, ByteArray.mk #[], [⟨ek, em, es, el⟩, v.2]⟩)) := by
    unfold B6 r03_Reader_chain_l1
    rw [if_pos (by rfl), hw]
    cases hs : sWhich mulS ts with
    | none => rfl
    | some j =>
      have hj := (which_pos hs).2
      have hj : j < 3 := Nat.lt_of_lt_of_le hj (by decide)
      have q1 : decide (((j : Nat) : Int) < 0) = false := by simp
      have q2 : IntKind.i64.wrap (6 + (j : Int)) = 6 + (j : Int) := w64 (by omega) (by omega)
      obtain ⟨w, hw'⟩ := which_sees hs
      simp only [Option.bind_eq_bind, Option.bind_some, Sum.elim_inr]
      rw [if_neg (by rw [q1]; decide)]
      show (r03_Reader_factorN n (r03_Reader.mk (RS L full ts).L (IntKind.i64.wrap ((RS L full ts).I + 1)) (RS L full ts).End (RS L full ts).E (RS L full ts).At) d >>= fun v4 => some (Sum.inl (v4.1.L, v4.1.I, v4.1.End, v4.1.E, v4.1.At, IntKind.i64.wrap (6 + (j : Int)), 0, ByteArray.mk #[], [(⟨ek, em, es, el⟩ : r02_Expr), v4.2]))) = _
      rw [adv_R hl hw', q2]; rfl
  unfold C6
  rw [iter_eq, hb]
  cases hs : sWhich mulS ts with
  | none => rfl
  | some j =>
    simp only [Option.bind_eq_bind, Option.bind_assoc, Option.bind_some]
theorem C4_eq (hl : Sf full ts) (n : Nat) (e : r02_Expr) : C4 n d (RS L full ts) e = match sWhich addS ts with
    | none => some (RS L full ts, e)
    | some j => r03_Reader_chainN n (RS L full ts.tail) d mulS 6 >>= fun v => C4 n d v.1 ⟨4 + (j : Int), 0, ByteArray.mk #[], [e, v.2]⟩ := by
  obtain ⟨ek, em, es, el⟩ := e
  have hw : iter (r03_Reader_chain_l5 (r03_Reader_exprN n) (r03_Reader_chainN n) (r03_Reader_factorN n) addS (tpX (RS L full ts) ⟨ek, em, es, el⟩)) ((-1), 0) = some (.inr (match sWhich addS ts with | some j => (j : Int) | none => -1)) := by
    rw [first_which]
    refine last_it0 (see := fun w => sSees w ts) (ws := addS) (fun k b => (b, k)) id id (fun w w' h h' => sees_one h h') (by decide) (fun k w best hk hi => ?_) (fun best => ?_) (-1)
    · unfold r03_Reader_chain_l5
      rw [if_pos (by simpa using hk)]
      have hi' : idx addS (k : Int) = some w := hi
      show ((idx addS (k : Int) >>= fun v2 => r03_Reader_is (RS L full ts) v2 >>= fun v3 => if v3 then some (k : Int) else some best : Option Int) >>= _) = _
      rw [hi']
      have hk3 : k < 3 := Nat.lt_of_lt_of_le hk (by decide)
      have wk : IntKind.i64.wrap ((k : Int) + 1) = ((k + 1 : Nat) : Int) := by rw [w64 (by omega) (by omega)]; omega
      simp only [Option.bind_eq_bind, Option.bind_some, is_R hl, wk]
      cases sSees w ts <;> rfl
    · unfold r03_Reader_chain_l5
      rw [if_neg (by simp)]; rfl
  have hb : B4 n d (tpX (RS L full ts) ⟨ek, em, es, el⟩) = match sWhich addS ts with
      | none => some (.inr (.inr (tpX (RS L full ts) ⟨ek, em, es, el⟩)))
      | some j => r03_Reader_chainN n (RS L full ts.tail) d mulS 6 >>= fun v => some (.inl (tpX v.1 ⟨4 + (j : Int), 0, ByteArray.mk #[], [⟨ek, em, es, el⟩, v.2]⟩)) := by
    unfold B4 r03_Reader_chain_l4
    rw [if_pos (by rfl), hw]
    cases hs : sWhich addS ts with
    | none => rfl
    | some j =>
      have hj := (which_pos hs).2
      have hj : j < 3 := Nat.lt_of_lt_of_le hj (by decide)
      have q1 : decide (((j : Nat) : Int) < 0) = false := by simp
      have q2 : IntKind.i64.wrap (4 + (j : Int)) = 4 + (j : Int) := w64 (by omega) (by omega)
      obtain ⟨w, hw'⟩ := which_sees hs
      simp only [Option.bind_eq_bind, Option.bind_some, Sum.elim_inr]
      rw [if_neg (by rw [q1]; decide)]
      show (r03_Reader_chainN n (r03_Reader.mk (RS L full ts).L (IntKind.i64.wrap ((RS L full ts).I + 1)) (RS L full ts).End (RS L full ts).E (RS L full ts).At) d mulS 6 >>= fun v4 => some (Sum.inl (v4.1.L, v4.1.I, v4.1.End, v4.1.E, v4.1.At, IntKind.i64.wrap (4 + (j : Int)), 0, ByteArray.mk #[], [(⟨ek, em, es, el⟩ : r02_Expr), v4.2]))) = _
      rw [adv_R hl hw', q2]; rfl
  unfold C4
  rw [iter_eq, hb]
  cases hs : sWhich addS ts with
  | none => rfl
  | some j =>
    simp only [Option.bind_eq_bind, Option.bind_assoc, Option.bind_some]
end
abbrev mkEr : r02_Expr → r03_Reader → r03_Reader × r02_Expr := fun v a => (a, v)
structure PR (L : Int) (full : List Tok) (f : Nat) : Prop where
  fac : ∀ (d : Nat) ts, d ≤ 24 → Sf full ts → TR L full Prod.fst mkEr (2 * f) (fun n => r03_Reader_factorN n (RS L full ts) d) (sFactor L f d ts)
  mul : ∀ (d : Nat) e ts, d ≤ 24 → Sf full ts → TR L full Prod.fst mkEr (2 * f) (fun n => C6 n d (RS L full ts) e) (sMul L f d e ts)
  term : ∀ (d : Nat) ts, d ≤ 24 → Sf full ts → TR L full Prod.fst mkEr (2 * f) (fun n => r03_Reader_chainN n (RS L full ts) d mulS 6) (sTerm L f d ts)
  add : ∀ (d : Nat) e ts, d ≤ 24 → Sf full ts → TR L full Prod.fst mkEr (2 * f) (fun n => C4 n d (RS L full ts) e) (sAdd L f d e ts)
  exp : ∀ (d : Nat) ts, d ≤ 24 → Sf full ts → TR L full Prod.fst mkEr (2 * f) (fun n => r03_Reader_exprN n (RS L full ts) d) (sExpr L f d ts)
theorem pr (L : Int) (full : List Tok) : ∀ f, PR L full f := by
  intro f
  induction f with
  | zero => exact ⟨fun d ts _ _ => by simp only [sFactor]; exact tr_out, fun d e ts _ _ => by simp only [sMul]; exact tr_out, fun d ts _ _ => by simp only [sTerm]; exact tr_out, fun d e ts _ _ => by simp only [sAdd]; exact tr_out, fun d ts _ _ => by simp only [sExpr]; exact tr_out⟩
  | succ f ih =>
    have sf := suf L f
    refine ⟨fun d ts hd hl => ?_, fun d e ts hd hl => ?_, fun d ts hd hl => ?_, fun d e ts hd hl => ?_, fun d ts hd hl => ?_⟩
    · -- a factor
      have wd : IntKind.i64.wrap ((d : Int) + 1) = ((d + 1 : Nat) : Int) := by rw [w64 (by omega) (by omega)]; omega
      simp only [sFactor]
      cases h1 : sSees (ByteArray.mk #[45]) ts with
      | true =>
        simp only [if_true]
        refine TR.mono (H := 2 * f + 1) ?_ (by omega)
        by_cases h24 : d = 24
        · rw [if_pos h24]
          have hd' : decide ((d : Int) ≥ 24) = true := by simp; omega
          refine TR.up (H := 2 * f) (x := fun _ => some (⟨full.map tokR, (RS L full ts).I, L, 6, sAt L ts⟩, zE)) rfl (fun n => by
            simp only [r03_Reader_factorN, is_R hl, h1, Option.bind_eq_bind, Option.bind_some, if_true, hd', fail_R hl]; rfl) ?_
          exact TR.err (fun n => rfl) (by decide) ⟨rfl, rfl⟩
        · rw [if_neg h24]
          have hd' : decide ((d : Int) ≥ 24) = false := by simp; omega
          refine TR.up (H := 2 * f) (x := fun n => r03_Reader_factorN n (RS L full ts.tail) ((d + 1 : Nat) : Int) >>= fun v5 => some (v5.1, (r02_Expr.mk 3 0 (ByteArray.mk #[]) [v5.2]))) rfl (fun n => by
            simp only [r03_Reader_factorN, is_R hl, h1, Option.bind_eq_bind, Option.bind_some, if_true, hd', Bool.false_eq_true, if_false, adv_R hl h1, wd]) ?_
          exact TR.bind (ih.fac (d + 1) ts.tail (by omega) hl.tail) (fun v r hv => TR.pure (fun n => rfl)) (fun r c p hc he => ⟨(r.1, ⟨3, 0, nB, [r.2]⟩), he, fun n => .inl rfl⟩)
      | false =>
        simp only [Bool.false_eq_true, if_false]
        cases h2 : sSees (ByteArray.mk #[40]) ts with
        | true =>
          simp only [if_true]
          refine TR.mono (H := 2 * f + 1) ?_ (by omega)
          by_cases h24 : d = 24
          · rw [if_pos h24]
            have hd' : decide ((d : Int) ≥ 24) = true := by simp; omega
            refine TR.up (H := 2 * f) (x := fun _ => some (⟨full.map tokR, (RS L full ts).I, L, 6, sAt L ts⟩, zE)) rfl (fun n => by
              simp only [r03_Reader_factorN, is_R hl, h1, h2, Option.bind_eq_bind, Option.bind_some, if_true, Bool.false_eq_true, if_false, hd', fail_R hl]; rfl) ?_
            exact TR.err (fun n => rfl) (by decide) ⟨rfl, rfl⟩
          · rw [if_neg h24]
            have hd' : decide ((d : Int) ≥ 24) = false := by simp; omega
            refine TR.up (H := 2 * f) (x := fun n => r03_Reader_exprN n (RS L full ts.tail) ((d + 1 : Nat) : Int) >>= fun v6 => r03_Reader_must v6.1 (ByteArray.mk #[41]) >>= fun v7 => some (v7, v6.2)) rfl (fun n => by
              simp only [r03_Reader_factorN, is_R hl, h1, h2, Option.bind_eq_bind, Option.bind_some, if_true, hd', Bool.false_eq_true, if_false, adv_R hl h2, wd]) ?_
            refine TR.bind (ih.exp (d + 1) ts.tail (by omega) hl.tail) (fun v r hv => ?_) (fun r c p hc he => ⟨(r.1, r.2), he, fun n => .inl (by rw [muste (er_ne hc he)]; rfl)⟩)
            exact TR.bind (π' := Prod.fst) (mk' := mkEr) (must_TR (hl.tail.suf (sf.exp _ _ _ _ hv)) _) (fun _ r' hv' => TR.pure (fun n => rfl)) (fun r c p hc he => ⟨(r, v), he, fun n => .inl rfl⟩)
        | false =>
          simp only [Bool.false_eq_true, if_false]
          have hj : (if decide ((RS L full ts).I < ((RS L full ts).L.length : Int)) = true then idx (RS L full ts).L (RS L full ts).I >>= fun v8 => some (v8.Kind == 2) else some false) = some (sOf 2 ts) := by
            rw [isnil_R hl]
            cases ts with
            | nil => rfl
            | cons t r =>
              rw [if_pos (by simp)]
              show (idx (full.map tokR) _).bind _ = _
              rw [hl.idxI]; rfl
          have hE : ((RS L full ts).E == 0) = true := rfl
          cases h3 : sOf 2 ts with
          | true =>
            rw [h3] at hj
            simp only [if_true]
            refine (TR.up (H := 2 * f) (x := fun n => r03_Reader_number (RS L full ts) >>= fun v9 => some (v9.1, (r02_Expr.mk 1 v9.2 (ByteArray.mk #[]) []))) rfl (fun n => by
              simp only [Option.bind_eq_bind] at hj
              simp only [r03_Reader_factorN, is_R hl, h1, h2, hE, hj, Option.bind_eq_bind, Option.bind_some, if_true, Bool.false_eq_true, if_false]) ?_).mono (by omega)
            exact TR.bind (num_TR hl) (fun v r hv => TR.pure (fun n => rfl)) (fun r c p hc he => ⟨(r.1, ⟨1, r.2, nB, []⟩), he, fun n => .inl rfl⟩)
          | false =>
            rw [h3] at hj
            simp only [Bool.false_eq_true, if_false]
            refine (TR.up (H := 2 * f) (x := fun n => r03_Reader_name (RS L full ts) >>= fun v10 => some (v10.1, (r02_Expr.mk 2 0 v10.2 []))) rfl (fun n => by
              simp only [Option.bind_eq_bind] at hj
              simp only [r03_Reader_factorN, is_R hl, h1, h2, hE, hj, Option.bind_eq_bind, Option.bind_some, if_true, Bool.false_eq_true, if_false]) ?_).mono (by omega)
            exact TR.bind (name_TR hl) (fun v r hv => TR.pure (fun n => rfl)) (fun r c p hc he => ⟨(r.1, ⟨2, 0, r.2, []⟩), he, fun n => .inl rfl⟩)
    · -- products
      simp only [sMul]
      cases hs : sWhich mulS ts with
      | none => exact TR.pure (fun n => by rw [C6_eq hl, hs])
      | some j =>
        refine (TR.eq (y := fun n => r03_Reader_factorN n (RS L full ts.tail) d >>= fun v => C6 n d v.1 ⟨6 + (j : Int), 0, ByteArray.mk #[], [e, v.2]⟩) ?_ (fun n => by rw [C6_eq hl, hs])).mono (show 2 * f ≤ 2 * (f + 1) by omega)
        exact TR.bind (ih.fac d ts.tail hd hl.tail) (fun v r hv => ih.mul d _ r hd (hl.tail.suf (sf.fac _ _ _ _ hv))) (fun r c p hc he => ⟨(r.1, ⟨6 + (j : Int), 0, nB, [e, r.2]⟩), he, fun n => .inl (C6_e (er_ne hc he) n d _)⟩)
    · -- a term
      simp only [sTerm]
      refine TR.mono (H := 2 * f + 1) ?_ (by omega)
      refine TR.up (H := 2 * f) (x := fun n => r03_Reader_factorN n (RS L full ts) d >>= fun v1 => C6 n d v1.1 v1.2) rfl (fun n => rfl) ?_
      exact TR.bind (ih.fac d ts hd hl) (fun v r hv => ih.mul d v r hd (hl.suf (sf.fac _ _ _ _ hv))) (fun r c p hc he => ⟨(r.1, r.2), he, fun n => .inl (C6_e (er_ne hc he) n d _)⟩)
    · -- sums
      simp only [sAdd]
      cases hs : sWhich addS ts with
      | none => exact TR.pure (fun n => by rw [C4_eq hl, hs])
      | some j =>
        refine (TR.eq (y := fun n => r03_Reader_chainN n (RS L full ts.tail) d mulS 6 >>= fun v => C4 n d v.1 ⟨4 + (j : Int), 0, ByteArray.mk #[], [e, v.2]⟩) ?_ (fun n => by rw [C4_eq hl, hs])).mono (show 2 * f ≤ 2 * (f + 1) by omega)
        exact TR.bind (ih.term d ts.tail hd hl.tail) (fun v r hv => ih.add d _ r hd (hl.tail.suf (sf.term _ _ _ _ hv))) (fun r c p hc he => ⟨(r.1, ⟨4 + (j : Int), 0, nB, [e, r.2]⟩), he, fun n => .inl (C4_e (er_ne hc he) n d _)⟩)
    · -- an expression
      simp only [sExpr]
      refine TR.up (H := 2 * f + 1) (x := fun n => r03_Reader_chainN n (RS L full ts) d addS 4) rfl (fun n => by simp only [r03_Reader_exprN, Option.bind_eq_bind, pair_eta]; rfl) ?_
      refine TR.up (H := 2 * f) (x := fun n => r03_Reader_chainN n (RS L full ts) d mulS 6 >>= fun v1 => C4 n d v1.1 v1.2) rfl (fun n => rfl) ?_
      exact TR.bind (ih.term d ts hd hl) (fun v r hv => ih.add d v r hd (hl.suf (sf.term _ _ _ _ hv))) (fun r c p hc he => ⟨(r.1, r.2), he, fun n => .inl (C4_e (er_ne hc he) n d _)⟩)
theorem expr_TR {L : Int} {full ts : List Tok} {H : Nat} (hl : Sf full ts) : TR L full Prod.fst mkEr H (fun _ => r03_Reader_expr (RS L full ts) 0) (eX L ts) :=
  ((pr L full _).exp 0 ts (by omega) hl).unf.mono (Nat.zero_le _)
end Go.Proofs.YtokjbpmjdcbogaaGreatDoor.Abs.Par
/- The statements' own reader reads comparisons and statements as parsing does. -/
namespace Go.Proofs.YtokjbpmjdcbogaaGreatDoor.Abs.Par
open Go Go.RowKit Wri
set_option linter.unusedVariables false
set_option linter.unusedSimpArgs false
/-! ### Comparisons -/
theorem cond_it {v2 : r03_Reader × r02_Expr} {see : ByteArray → Bool} (hs : ∀ w, r03_Reader_is v2.1 w = some (see w)) (h1 : ∀ w w', see w = true → see w' = true → w = w') (l : r02_Expr) :
    iter (r03_Reader_cond_l1 v2) (0, ⟨0, l, zE⟩) = some (.inr (⟨match firstW see cmpS with | some j => (j : Int) + 1 | none => 0, l, zE⟩ : r02_Cond)) := by
  refine last_it0 (see := see) (ws := cmpS) (fun k b => (k, (⟨b, l, zE⟩ : r02_Cond))) (fun b => (⟨b, l, zE⟩ : r02_Cond)) (fun k => k + 1) h1 (by decide) (fun k w best hk hi => ?_) (fun best => ?_) 0
  · have hk6 : k < 6 := hk
    unfold r03_Reader_cond_l1
    rw [if_pos (by simp; omega)]
    show (((idx cmpS (k : Int) >>= fun v3 => r03_Reader_is v2.1 v3 >>= fun v4 => if v4 then some (IntKind.i64.wrap ((k : Int) + 1)) else some best : Option Int)) >>= fun j2 => some (Sum.inl ((IntKind.i64.wrap ((k : Int) + 1)), (r02_Cond.mk j2 l zE)))) = _
    rw [hi]
    have wk : IntKind.i64.wrap ((k : Int) + 1) = (k : Int) + 1 := w64 (by omega) (by omega)
    simp only [Option.bind_eq_bind, Option.bind_some, hs, wk]
    cases see w <;> simp
  · unfold r03_Reader_cond_l1
    rw [if_neg (by simp [cmpS])]
theorem cond_ee {v2 : r03_Reader × r02_Expr} (h : v2.1.E ≠ 0) (l : r02_Expr) : iter (r03_Reader_cond_l1 v2) (0, ⟨0, l, zE⟩) = some (.inr (⟨0, l, zE⟩ : r02_Cond)) := cond_it (see := fun _ => false) (fun w => ise h w) (fun w w' h => by cases h) l
section
variable {L : Int} {full ts : List Tok}
theorem cond_TR {H : Nat} (hl : Sf full ts) : TR L full Prod.fst mkVr H (fun _ => r03_Reader_cond (RS L full ts)) (sCond L ts) := by
  unfold sCond r03_Reader_cond
  refine TR.bind (π' := Prod.fst) (mk' := mkVr) (must_TR hl _) (fun _ r1 h1 => ?_) (fun a c p hc he => ⟨(a, ⟨0, vR, zE⟩), he, fun n => .inl (by
    have h : a.E ≠ 0 := er_ne hc he
    have e := cond_ee (v2 := (a, vR)) h vR
    unfold zE at e
    simp only [expre h, Option.bind_eq_bind, Option.bind_some, e, Sum.elim_inr, faile h, beq_self_eq_true, if_true]
    rfl)⟩)
  have l1 := hl.suf (must_suf h1).1
  refine TR.bind (π' := Prod.fst) (mk' := mkVr) (expr_TR l1) (fun l r2 h2 => ?_) (fun a c p hc he => ⟨(a.1, ⟨0, a.2, zE⟩), he, fun n => .inl (by
    have h : a.1.E ≠ 0 := er_ne hc he
    have e := cond_ee (v2 := a) h a.2
    unfold zE at e
    simp only [Option.bind_eq_bind, Option.bind_some, e, Sum.elim_inr, faile h, beq_self_eq_true, if_true]
    rfl)⟩)
  have l2 := l1.suf (eX_suf h2)
  have e := cond_it (v2 := (RS L full r2, l)) (see := fun w => sSees w r2) (fun w => is_R l2 w) (fun w w' h h' => sees_one h h') l
  rw [← first_which] at e
  cases hs : sWhich cmpS r2 with
  | none =>
    rw [hs] at e
    unfold zE at e
    refine TR.err (r := (⟨full.map tokR, (RS L full r2).I, L, 5, sAt L r2⟩, ⟨0, l, zE⟩)) (fun n => ?_) (by decide) ⟨rfl, rfl⟩
    simp only [Option.bind_eq_bind, Option.bind_some, e, Sum.elim_inr, fail_R l2, beq_self_eq_true, if_true]
    rfl
  | some j =>
    rw [hs] at e
    unfold zE at e
    obtain ⟨w, hw⟩ := which_sees hs
    have q1 : (((j : Int) + 1) == 0) = false := by simp; omega
    refine TR.eq (y := fun _ => r03_Reader_expr (RS L full r2.tail) 0 >>= fun v6 => r03_Reader_must v6.1 (ByteArray.mk #[41]) >>= fun v7 => some (v7, (r02_Cond.mk (1 + (j : Int)) l v6.2))) ?_ (fun n => by
      simp only [Option.bind_eq_bind, Option.bind_some, e, Sum.elim_inr, q1, Bool.false_eq_true, if_false, adv_R l2 hw, Int.add_comm 1 (j : Int)])
    refine TR.bind (π' := Prod.fst) (mk' := mkVr) (expr_TR l2.tail) (fun x r3 h3 => ?_) (fun a c p hc he => ⟨(a.1, ⟨1 + (j : Int), l, a.2⟩), he, fun n => .inl (by rw [muste (er_ne hc he)]; rfl)⟩)
    exact TR.bind (π' := Prod.fst) (mk' := mkVr) (must_TR (l2.tail.suf (eX_suf h3)) _) (fun _ r4 h4 => TR.pure (fun n => rfl)) (fun a c p hc he => ⟨(a, ⟨1 + (j : Int), l, x⟩), he, fun n => .inl rfl⟩)
end
/-! ### Loops -/
abbrev T6 (β : Type) := List r01_Token × Int × Int × Int × Int × List β
def tq {β : Type} (a : r03_Reader) (l : List β) : T6 β := (a.L, a.I, a.End, a.E, a.At, l)
noncomputable def QF {β O : Type} (body : T6 β → Option (Sum (T6 β) (Sum O (T6 β)))) (a : r03_Reader) (l : List β) : Option (r03_Reader × List β) :=
  iter body (tq a l) >>= Sum.elim (fun _ => none) (fun j1 => some (⟨j1.1, j1.2.1, j1.2.2.1, j1.2.2.2.1, j1.2.2.2.2.1⟩, j1.2.2.2.2.2))
section
variable {β O : Type} {body : T6 β → Option (Sum (T6 β) (Sum O (T6 β)))} {a : r03_Reader} {l : List β}
theorem QF_end (h : body (tq a l) = some (.inr (.inr (tq a l)))) : QF body a l = some (a, l) := by unfold QF; rw [iter_out h]; rfl
theorem QF_more {x : Option (r03_Reader × List β)} (h : body (tq a l) = x >>= fun v => some (.inl (tq v.1 v.2))) : QF body a l = x >>= fun v => QF body v.1 v.2 := by
  unfold QF
  rw [iter_eq, h]
  simp only [Option.bind_eq_bind, Option.bind_assoc]
  congr 1
theorem QF_use {ρ : Type} (k : r03_Reader × List β → Option ρ) : iter body (tq a l) >>= Sum.elim (fun _ => none) (fun j1 => k (⟨j1.1, j1.2.1, j1.2.2.1, j1.2.2.2.1, j1.2.2.2.2.1⟩, j1.2.2.2.2.2)) = QF body a l >>= k := by
  unfold QF
  simp only [Option.bind_eq_bind, Option.bind_assoc]
  congr 1; funext o
  cases o <;> rfl
end
noncomputable def SBr (n : Nat) (i : Int) := r03_Reader_stmts_l1 (r03_Reader_stmtsN n) (r03_Reader_blockN n) i
noncomputable def ABr (n : Nat) (i : Int) := r03_Reader_stmts_l3 (r03_Reader_stmtsN n) (r03_Reader_blockN n) i
noncomputable def RLs (n : Nat) (i : Int) (a : r03_Reader) (l : List r02_Stmt) : Option (r03_Reader × List r02_Stmt) := iter (SBr n i) (tq a l) >>= Sum.elim (fun r => some r) (fun j1 => some (⟨j1.1, j1.2.1, j1.2.2.1, j1.2.2.2.1, j1.2.2.2.2.1⟩, j1.2.2.2.2.2))
noncomputable def ALr (n : Nat) (i : Int) (a : r03_Reader) (l : List r02_Arm) : Option (r03_Reader × List r02_Arm) := QF (ABr n i) a l
noncomputable def ArmR (n : Nat) (i : Int) (a : r03_Reader) : Option (r03_Reader × r02_Arm) := r03_Reader_name a >>= fun v21 => r03_Reader_must v21.1 (ByteArray.mk #[40]) >>= fun v22 => r03_Reader_name v22 >>= fun v23 => r03_Reader_must v23.1 (ByteArray.mk #[41]) >>= fun v24 => r03_Reader_blockN n v24 i >>= fun v25 => some (v25.1, r02_Arm.mk v21.2 v23.2 v25.2)
theorem RLs_more {n : Nat} {i : Int} {a : r03_Reader} {l : List r02_Stmt} {Y : Option (r03_Reader × r02_Stmt)} (h : SBr n i (tq a l) = Y >>= fun s => app 288 l [s.2] >>= fun v => some (.inl (tq s.1 v))) :
    RLs n i a l = Y >>= fun s => app 288 l [s.2] >>= fun v => RLs n i s.1 v := by
  unfold RLs
  rw [iter_eq, h]
  simp only [Option.bind_eq_bind, Option.bind_assoc]
  congr 1
theorem RLs_ret {n : Nat} {i : Int} {a : r03_Reader} {l : List r02_Stmt} (h : SBr n i (tq a l) = some (.inr (.inl (a, l)))) : RLs n i a l = some (a, l) := by unfold RLs; rw [iter_out h]; rfl
section
variable {a : r03_Reader} (h : a.E ≠ 0)
include h
theorem RLs_e (n : Nat) (i : Int) (l : List r02_Stmt) : RLs n i a l = some (a, l) := by
  unfold RLs
  rw [iter_out (r := .inr (tq a l)) (by unfold SBr r03_Reader_stmts_l1; rw [if_neg (by simpa [tq] using h)])]; rfl
theorem ALr_e (n : Nat) (i : Int) (l : List r02_Arm) : ALr n i a l = some (a, l) := QF_end (by
  unfold ABr r03_Reader_stmts_l3
  rw [if_neg (by simpa [tq] using h)]; rfl)
theorem blocke (n : Nat) (i : Int) : Sn n 2 (r03_Reader_blockN n a i) (a, []) := by
  cases n with
  | zero => exact .inr ⟨rfl, by omega⟩
  | succ n =>
    simp only [r03_Reader_blockN, ise h, muste h, Option.bind_eq_bind, Option.bind_some, Bool.false_eq_true, if_false]
    cases n with
    | zero => exact .inr ⟨rfl, by omega⟩
    | succ n =>
      refine .inl ?_
      have e : r03_Reader_stmtsN (n + 1) a (IntKind.i64.wrap (i + 1)) = some (a, []) := RLs_e h n _ []
      rw [e]
      simp only [muste h, Option.bind_some]
theorem stmtsre (i : Int) : r03_Reader_stmts a i = some (a, []) := Sn.unf (h := 1) fun n => by
  cases n with
  | zero => exact .inr ⟨rfl, by omega⟩
  | succ n => exact .inl (RLs_e h n i [])
end
section
variable {L : Int} {full ts : List Tok}
theorem ALr_0 (hl : Sf full ts) (n : Nat) (i : Int) : ALr n i (RS L full ts) [] = ArmR n i (RS L full ts) >>= fun v => ALr n i v.1 [v.2] := by
  have := QF_more (body := ABr n i) (a := RS L full ts) (l := []) (x := ArmR n i (RS L full ts) >>= fun v => some (v.1, [v.2])) (by
    unfold ABr r03_Reader_stmts_l3
    rw [if_pos (by rfl), if_pos (by rfl)]
    unfold ArmR
    simp only [Option.bind_eq_bind, Option.bind_some, Option.bind_assoc, if_true]
    rfl)
  unfold ALr
  rw [this]
  simp only [Option.bind_eq_bind, Option.bind_assoc, Option.bind_some]
theorem ALr_1 (hl : Sf full ts) (n : Nat) (i : Int) {l : List r02_Arm} (h0 : l ≠ []) (h1 : l.length ≤ 2000) : ALr n i (RS L full ts) l = if sSees (ByteArray.mk #[125]) ts then some (RS L full ts, l) else ArmR n i (RS L full ts) >>= fun v => ALr n i v.1 (l ++ [v.2]) := by
  have hlen : (((tq (RS L full ts) l).2.2.2.2.2.length : Int) == 0) = false := by
    cases l with
    | nil => exact absurd rfl h0
    | cons x r => simp [tq]; omega
  have e : r03_Reader.mk (tq (RS L full ts) l).1 (tq (RS L full ts) l).2.1 (tq (RS L full ts) l).2.2.1 (tq (RS L full ts) l).2.2.2.1 (tq (RS L full ts) l).2.2.2.2.1 = RS L full ts := rfl
  cases hs : sSees (ByteArray.mk #[125]) ts with
  | true =>
    refine QF_end (body := ABr n i) ?_
    unfold ABr r03_Reader_stmts_l3
    rw [if_pos (by rfl), hlen, if_neg (by decide), e, is_R hl, hs]; rfl
  | false =>
    have := QF_more (body := ABr n i) (a := RS L full ts) (l := l) (x := ArmR n i (RS L full ts) >>= fun v => some (v.1, l ++ [v.2])) (by
      unfold ABr r03_Reader_stmts_l3
      rw [if_pos (by rfl), hlen, if_neg (by decide), e, is_R hl, hs]
      unfold ArmR
      simp only [Option.bind_eq_bind, Option.bind_some, Option.bind_assoc, Bool.not_false, if_true]
      congr 1; funext v21
      congr 1; funext v22
      congr 1; funext v23
      congr 1; funext v24
      congr 1; funext v25
      show (app 56 l _).bind _ = _
      rw [app_ok (by simp; omega)]; rfl)
    unfold ALr
    rw [this]
    simp only [Option.bind_eq_bind, Option.bind_assoc, Option.bind_some, Bool.false_eq_true, if_false]
end
/-! ### Statements -/
def TSr (L : Int) (full : List Tok) (H : Nat) (i : Int) (ts : List Tok) : Option (Rs r02_Stmt) → Prop
  | none => ∀ n l, SBr n i (tq (RS L full ts) l) = some (.inr (.inl (RS L full ts, l)))
  | some o => o ≠ .out → ∃ Y : Nat → Option (r03_Reader × r02_Stmt), TR L full Prod.fst mkVr H Y o ∧ ∀ n l, SBr n i (tq (RS L full ts) l) = Y n >>= fun s => app 288 l [s.2] >>= fun v => some (.inl (tq s.1 v))
structure PU (L : Int) (full : List Tok) (f : Nat) : Prop where
  stmts : ∀ (i : Nat) ts acc, i ≤ 24 → Sf full ts → acc.length + ts.length ≤ 2000 → TR L full Prod.fst (fun (v : List r02_Stmt) a => (a, acc ++ v)) (2 * f + 6) (fun n => RLs n i (RS L full ts) acc) (sStmts L f i ts)
  stmt : ∀ (i : Nat) ts, i ≤ 24 → Sf full ts → TSr L full (2 * f + 6) i ts (sStmt L f i ts)
  arm : ∀ (i : Nat) ts, i ≤ 24 → Sf full ts → TR L full Prod.fst mkVr (2 * f + 6) (fun n => ArmR n i (RS L full ts)) (sArm L f i ts)
  arms : ∀ (i : Nat) ts acc, i ≤ 24 → Sf full ts → acc ≠ [] → acc.length + ts.length ≤ 2000 → TR L full Prod.fst (fun (v : List r02_Arm) a => (a, acc ++ v)) (2 * f + 6) (fun n => ALr n i (RS L full ts) acc) (sArms L f i ts)
  block : ∀ (i : Nat) ts, i ≤ 24 → Sf full ts → TR L full Prod.fst mkVr (2 * f + 6) (fun n => r03_Reader_blockN n (RS L full ts) i) (sBlock L f i ts)
instance : Inhabited r03_Reader := ⟨⟨[], 0, 0, 0, 0⟩⟩
instance : Inhabited r02_Stmt := ⟨.mk 0 nB nB zE zC [] [] []⟩
theorem herr_get {ρ : Type} [Inhabited ρ] {P : ρ → Prop} {x : Nat → Option ρ} {H : Nat} (e : ∀ n, x n = some ((x 0).getD default)) (p : P ((x 0).getD default)) : ∃ r, P r ∧ ∀ n, Sn n H (x n) r := ⟨_, p, fun n => .inl (e n)⟩
theorem of_R {L : Int} {full ts : List Tok} (h : Sf full ts) (k : Int) : (if decide ((RS L full ts).I < ((RS L full ts).L.length : Int)) = true then (idx (RS L full ts).L (RS L full ts).I).bind fun v => some (v.Kind == k) else some false) = some (sOf k ts) := by
  rw [isnil_R h]
  cases ts with
  | nil => rfl
  | cons t r =>
    rw [if_pos (by simp)]
    show (idx (full.map tokR) _).bind _ = _
    rw [h.idxI]; rfl
theorem stmtse {a : r03_Reader} (h : a.E ≠ 0) (n : Nat) (i : Int) : Sn n 1 (r03_Reader_stmtsN n a i) (a, []) := by
  cases n with
  | zero => exact .inr ⟨rfl, by omega⟩
  | succ n => exact .inl (RLs_e h n i [])
theorem pu (L : Int) (full : List Tok) : ∀ f, PU L full f := by
  intro f
  induction f with
  | zero => exact ⟨fun i ts acc _ _ _ => by simp only [sStmts]; exact tr_out, fun i ts _ _ => by
      simp only [sStmt]
      exact fun h => absurd rfl h, fun i ts _ _ => by simp only [sArm]; exact tr_out, fun i ts acc _ _ _ _ => by simp only [sArms]; exact tr_out, fun i ts _ _ => by simp only [sBlock]; exact tr_out⟩
  | succ f ih =>
    have sf := sufS L f
    refine ⟨fun i ts acc hi hl ha => ?_, fun i ts hi hl => ?_, fun i ts hi hl => ?_, fun i ts acc hi hl h0 ha => ?_, fun i ts hi hl => ?_⟩
    · -- statements
      simp only [sStmts]
      have h1 := ih.stmt i ts hi hl
      cases hs : sStmt L f i ts with
      | none =>
        rw [hs] at h1
        exact TR.pure (fun n => by rw [RLs_ret (h1 n acc)]; simp)
      | some o =>
        rw [hs] at h1
        intro hne
        have ho : o ≠ .out := fun h => by subst h; exact hne rfl
        obtain ⟨Y, hY, hb⟩ := h1 ho
        refine (TR.eq (y := fun n => Y n >>= fun s => app 288 acc [s.2] >>= fun v => RLs n i s.1 v) (TR.mono (H := 2 * f + 6) ?_ (by omega)) (fun n => RLs_more (hb n acc))) hne
        refine TR.bind (π' := Prod.fst) (mk' := fun (v : List r02_Stmt) a => (a, acc ++ v)) hY (fun s r hor => ?_) (fun r c p hc he => ⟨(r.1, acc ++ [r.2]), he, fun n => .inl (by rw [app_ok (by simp; omega)]; exact RLs_e (er_ne hc he) n _ _)⟩)
        subst hor
        have q := sf.stmt _ _ _ _ hs
        refine TR.eq (y := fun n => RLs n i (RS L full r) (acc ++ [s])) ?_ (fun n => by show (app 288 acc [s]).bind _ = _; rw [app_ok (by simp; omega)]; rfl)
        exact TR.map (g := fun l => s :: l) (ih.stmts i r (acc ++ [s]) hi (hl.suf q.1) (by simp; omega)) (fun v a => by simp)
    · -- a statement
      simp only [sStmt]
      have e : ∀ l : List r02_Stmt, r03_Reader.mk (tq (RS L full ts) l).1 (tq (RS L full ts) l).2.1 (tq (RS L full ts) l).2.2.1 (tq (RS L full ts) l).2.2.2.1 (tq (RS L full ts) l).2.2.2.2.1 = RS L full ts := fun l => rfl
      have e2 : ∀ {w : ByteArray} (l : List r02_Stmt), sSees w ts = true → r03_Reader.mk (tq (RS L full ts) l).1 (IntKind.i64.wrap ((tq (RS L full ts) l).2.1 + 1)) (tq (RS L full ts) l).2.2.1 (tq (RS L full ts) l).2.2.2.1 (tq (RS L full ts) l).2.2.2.2.1 = RS L full ts.tail := fun l h => adv_R hl h
      have e3 : ∀ l : List r02_Stmt, (if decide ((tq (RS L full ts) l).2.1 < ((tq (RS L full ts) l).1.length : Int)) = true then (idx (tq (RS L full ts) l).1 (tq (RS L full ts) l).2.1).bind fun v => some (v.Kind == 1) else some false) = some (sOf 1 ts) := fun l => of_R (L := L) hl 1
      cases h1 : sSees (ByteArray.mk #[105, 102]) ts with
      | true =>
        simp only [if_true]
        refine fun _ => ⟨fun n => r03_Reader_cond (RS L full ts.tail) >>= fun v2 => r03_Reader_blockN n v2.1 i >>= fun v3 => r03_Reader_is v3.1 (ByteArray.mk #[101, 108, 115, 101]) >>= fun v4 => if v4 then (r03_Reader_blockN n (r03_Reader.mk v3.1.L (IntKind.i64.wrap (v3.1.I + 1)) v3.1.End v3.1.E v3.1.At) i >>= fun v5 => some (v5.1, r02_Stmt.mk 2 nB nB zE v2.2 v3.2 v5.2 [])) else some (v3.1, r02_Stmt.mk 2 nB nB zE v2.2 v3.2 [] []), ?_, fun n l => ?_⟩
        · refine TR.mono (H := 2 * f + 6) ?_ (by omega)
          refine TR.bind (π' := Prod.fst) (mk' := mkVr) (cond_TR hl.tail) (fun c r1 q1 => ?_) (fun a c p hc he => ⟨(a.1, .mk 2 nB nB zE a.2 [] [] []), he, fun n => ((blocke (er_ne hc he) n i).mono (show 2 ≤ 2 * f + 6 by omega)).bind (f := fun v3 => r03_Reader_is v3.1 (ByteArray.mk #[101, 108, 115, 101]) >>= fun v4 => if v4 then (r03_Reader_blockN n (r03_Reader.mk v3.1.L (IntKind.i64.wrap (v3.1.I + 1)) v3.1.End v3.1.E v3.1.At) i >>= fun v5 => some (v5.1, r02_Stmt.mk 2 nB nB zE a.2 v3.2 v5.2 [])) else some (v3.1, r02_Stmt.mk 2 nB nB zE a.2 v3.2 [] [])) (.inl (by rw [ise (er_ne hc he)]; rfl))⟩)
          have l1 := hl.tail.suf (cond_suf q1).1
          refine TR.bind (π' := Prod.fst) (mk' := mkVr) (ih.block i r1 hi l1) (fun b r2 q2 => ?_) (fun a cc p hc he => ⟨(a.1, .mk 2 nB nB zE c a.2 [] []), he, fun n => .inl (by rw [ise (er_ne hc he)]; rfl)⟩)
          have l2 := l1.suf (sf.block _ _ _ _ q2)
          cases h4 : sSees (ByteArray.mk #[101, 108, 115, 101]) r2 with
          | true =>
            simp only [if_true]
            refine TR.eq (y := fun n => r03_Reader_blockN n (RS L full r2.tail) i >>= fun v5 => some (v5.1, r02_Stmt.mk 2 nB nB zE c b v5.2 [])) ?_ (fun n => by simp only [is_R l2, h4, Option.bind_eq_bind, Option.bind_some, if_true, adv_R l2 h4])
            exact TR.bind (π' := Prod.fst) (mk' := mkVr) (ih.block i r2.tail hi l2.tail) (fun l r3 h5 => TR.pure (fun n => rfl)) (fun a cc p hc he => ⟨(a.1, .mk 2 nB nB zE c b a.2 []), he, fun n => .inl rfl⟩)
          | false =>
            simp only [Bool.false_eq_true, if_false]
            exact TR.pure (fun n => by simp only [is_R l2, h4, Option.bind_eq_bind, Option.bind_some, Bool.false_eq_true, if_false])
        · unfold SBr r03_Reader_stmts_l1
          rw [if_pos (by rfl)]
          simp only [e, e2 l h1, is_R hl, h1, Option.bind_eq_bind, Option.bind_some, Option.bind_assoc, if_true]
          congr 1; funext v2
          congr 1; funext v3
          congr 1; funext v4
          cases v4 with
          | true => simp only [if_true, Option.bind_assoc]; rfl
          | false => rfl
      | false =>
      simp only [Bool.false_eq_true, if_false]
      cases h2 : sSees (ByteArray.mk #[119, 104, 105, 108, 101]) ts with
      | true =>
        simp only [if_true]
        refine fun _ => ⟨fun n => r03_Reader_cond (RS L full ts.tail) >>= fun v2 => r03_Reader_blockN n v2.1 i >>= fun v3 => some (v3.1, r02_Stmt.mk 3 nB nB zE v2.2 v3.2 [] []), ?_, fun n l => ?_⟩
        · refine TR.mono (H := 2 * f + 6) ?_ (by omega)
          refine TR.bind (π' := Prod.fst) (mk' := mkVr) (cond_TR hl.tail) (fun c r1 q1 => ?_) (fun a c p hc he => ⟨(a.1, .mk 3 nB nB zE a.2 [] [] []), he, fun n => ((blocke (er_ne hc he) n i).mono (show 2 ≤ 2 * f + 6 by omega)).bind (f := fun v3 => some (v3.1, r02_Stmt.mk 3 nB nB zE a.2 v3.2 [] [])) (.inl rfl)⟩)
          have l1 := hl.tail.suf (cond_suf q1).1
          exact TR.bind (π' := Prod.fst) (mk' := mkVr) (ih.block i r1 hi l1) (fun b r2 q2 => TR.pure (fun n => rfl)) (fun a cc p hc he => ⟨(a.1, .mk 3 nB nB zE c a.2 [] []), he, fun n => .inl rfl⟩)
        · unfold SBr r03_Reader_stmts_l1
          rw [if_pos (by rfl)]
          simp only [e, e2 l h2, is_R hl, h1, h2, Option.bind_eq_bind, Option.bind_some, Option.bind_assoc, if_true, Bool.false_eq_true, if_false]
          rfl
      | false =>
      simp only [Bool.false_eq_true, if_false]
      cases h3 : sSees (ByteArray.mk #[115, 101, 110, 100]) ts with
      | true =>
        simp only [if_true]
        refine fun _ => ⟨fun n => r03_Reader_name (RS L full ts.tail) >>= fun v10 => r03_Reader_must v10.1 (ByteArray.mk #[46]) >>= fun v11 => r03_Reader_name v11 >>= fun v12 => r03_Reader_must v12.1 (ByteArray.mk #[40]) >>= fun v13 => r03_Reader_expr v13 0 >>= fun v14 => r03_Reader_must v14.1 (ByteArray.mk #[41]) >>= fun v15 => r03_Reader_must v15 (ByteArray.mk #[59]) >>= fun v16 => some (v16, r02_Stmt.mk 4 v10.2 v12.2 v14.2 zC [] [] []), ?_, fun n l => ?_⟩
        · unfold sSend
          refine TR.bind (π' := Prod.fst) (mk' := mkVr) (name_TR hl.tail) (fun m r1 q1 => ?_) (fun a c p hc he => herr_get (fun n => by have h : a.1.E ≠ 0 := er_ne hc he; simp only [muste h, namee h, nume h, expre h, Option.bind_eq_bind, Option.bind_some, Option.getD_some]) (by have h : a.1.E ≠ 0 := er_ne hc he; simp only [muste h, namee h, nume h, expre h, Option.bind_eq_bind, Option.bind_some, Option.getD_some]; exact ⟨he.1, he.2⟩))
          have l1 := hl.tail.suf (name_suf q1).1
          refine TR.bind (π' := Prod.fst) (mk' := mkVr) (must_TR l1 _) (fun _ r2 q2 => ?_) (fun a c p hc he => herr_get (fun n => by have h : a.E ≠ 0 := er_ne hc he; simp only [muste h, namee h, nume h, expre h, Option.bind_eq_bind, Option.bind_some, Option.getD_some]) (by have h : a.E ≠ 0 := er_ne hc he; simp only [muste h, namee h, nume h, expre h, Option.bind_eq_bind, Option.bind_some, Option.getD_some]; exact ⟨he.1, he.2⟩))
          have l2 := l1.suf (must_suf q2).1
          refine TR.bind (π' := Prod.fst) (mk' := mkVr) (name_TR l2) (fun t r3 q3 => ?_) (fun a c p hc he => herr_get (fun n => by have h : a.1.E ≠ 0 := er_ne hc he; simp only [muste h, namee h, nume h, expre h, Option.bind_eq_bind, Option.bind_some, Option.getD_some]) (by have h : a.1.E ≠ 0 := er_ne hc he; simp only [muste h, namee h, nume h, expre h, Option.bind_eq_bind, Option.bind_some, Option.getD_some]; exact ⟨he.1, he.2⟩))
          have l3 := l2.suf (name_suf q3).1
          refine TR.bind (π' := Prod.fst) (mk' := mkVr) (must_TR l3 _) (fun _ r4 q4 => ?_) (fun a c p hc he => herr_get (fun n => by have h : a.E ≠ 0 := er_ne hc he; simp only [muste h, namee h, nume h, expre h, Option.bind_eq_bind, Option.bind_some, Option.getD_some]) (by have h : a.E ≠ 0 := er_ne hc he; simp only [muste h, namee h, nume h, expre h, Option.bind_eq_bind, Option.bind_some, Option.getD_some]; exact ⟨he.1, he.2⟩))
          have l4 := l3.suf (must_suf q4).1
          refine TR.bind (π' := Prod.fst) (mk' := mkVr) (expr_TR l4) (fun x r5 q5 => ?_) (fun a c p hc he => herr_get (fun n => by have h : a.1.E ≠ 0 := er_ne hc he; simp only [muste h, namee h, nume h, expre h, Option.bind_eq_bind, Option.bind_some, Option.getD_some]) (by have h : a.1.E ≠ 0 := er_ne hc he; simp only [muste h, namee h, nume h, expre h, Option.bind_eq_bind, Option.bind_some, Option.getD_some]; exact ⟨he.1, he.2⟩))
          have l5 := l4.suf (eX_suf q5)
          refine TR.bind (π' := Prod.fst) (mk' := mkVr) (must_TR l5 _) (fun _ r6 q6 => ?_) (fun a c p hc he => herr_get (fun n => by have h : a.E ≠ 0 := er_ne hc he; simp only [muste h, namee h, nume h, expre h, Option.bind_eq_bind, Option.bind_some, Option.getD_some]) (by have h : a.E ≠ 0 := er_ne hc he; simp only [muste h, namee h, nume h, expre h, Option.bind_eq_bind, Option.bind_some, Option.getD_some]; exact ⟨he.1, he.2⟩))
          have l6 := l5.suf (must_suf q6).1
          exact TR.bind (π' := Prod.fst) (mk' := mkVr) (must_TR l6 _) (fun _ r7 q7 => TR.pure (fun n => rfl)) (fun a c p hc he => ⟨(a, _), he, fun n => .inl rfl⟩)
        · unfold SBr r03_Reader_stmts_l1
          rw [if_pos (by rfl)]
          simp only [e, e2 l h3, is_R hl, h1, h2, h3, Option.bind_eq_bind, Option.bind_some, Option.bind_assoc, if_true, Bool.false_eq_true, if_false]
          rfl
      | false =>
      simp only [Bool.false_eq_true, if_false]
      cases h4 : sSees (ByteArray.mk #[114, 101, 99, 118]) ts with
      | true =>
        simp only [if_true]
        refine fun _ => ⟨fun n => r03_Reader_name (RS L full ts.tail) >>= fun v18 => r03_Reader_must v18.1 (ByteArray.mk #[123]) >>= fun v19 => ALr n i v19 [] >>= fun w => r03_Reader_must w.1 (ByteArray.mk #[125]) >>= fun v27 => some (v27, r02_Stmt.mk 5 v18.2 nB zE zC [] [] w.2), ?_, fun n l => ?_⟩
        · refine TR.mono (H := 2 * f + 6) ?_ (by omega)
          refine TR.bind (π' := Prod.fst) (mk' := mkVr) (name_TR hl.tail) (fun m r1 q1 => ?_) (fun a c p hc he => ⟨(a.1, .mk 5 a.2 nB zE zC [] [] []), he, fun n => .inl (by
            have h : a.1.E ≠ 0 := er_ne hc he
            simp only [muste h, ALr_e h, Option.bind_eq_bind, Option.bind_some])⟩)
          have l1 := hl.tail.suf (name_suf q1).1
          refine TR.bind (π' := Prod.fst) (mk' := mkVr) (must_TR l1 _) (fun _ r2 q2 => ?_) (fun a c p hc he => ⟨(a, .mk 5 m nB zE zC [] [] []), he, fun n => .inl (by
            have h : a.E ≠ 0 := er_ne hc he
            simp only [muste h, ALr_e h, Option.bind_eq_bind, Option.bind_some])⟩)
          have l2 := l1.suf (must_suf q2).1
          refine TR.eq (y := fun n => ArmR n i (RS L full r2) >>= fun v => ALr n i v.1 [v.2] >>= fun w => r03_Reader_must w.1 (ByteArray.mk #[125]) >>= fun v27 => some (v27, r02_Stmt.mk 5 m nB zE zC [] [] w.2)) ?_ (fun n => by
            rw [ALr_0 l2]
            simp only [Option.bind_eq_bind, Option.bind_assoc])
          refine TR.bind (π' := Prod.fst) (mk' := mkVr) (ih.arm i r2 hi l2) (fun x r3 q3 => ?_) (fun a c p hc he => ⟨(a.1, .mk 5 m nB zE zC [] [] [a.2]), he, fun n => .inl (by
            have h : a.1.E ≠ 0 := er_ne hc he
            simp only [muste h, ALr_e h, Option.bind_eq_bind, Option.bind_some])⟩)
          have z3 := sf.arm _ _ _ _ q3
          have l3 := l2.suf z3.1
          have z2 := l2.len
          refine TR.bind (π' := Prod.fst) (mk' := mkVr) (ih.arms i r3 [x] hi l3 (by simp) (by simp; omega)) (fun w r4 q4 => ?_) (fun a c p hc he => ⟨(a.1, .mk 5 m nB zE zC [] [] a.2), he, fun n => .inl (by
            have h : a.1.E ≠ 0 := er_ne hc he
            simp only [muste h, Option.bind_eq_bind, Option.bind_some])⟩)
          have l4 := l3.suf (sf.arms _ _ _ _ q4)
          exact TR.bind (π' := Prod.fst) (mk' := mkVr) (must_TR l4 _) (fun _ r5 q5 => TR.pure (fun n => rfl)) (fun a c p hc he => ⟨(a, .mk 5 m nB zE zC [] [] ([x] ++ w)), he, fun n => .inl rfl⟩)
        · unfold SBr r03_Reader_stmts_l1
          rw [if_pos (by rfl)]
          simp only [e, e2 l h4, is_R hl, h1, h2, h3, h4, Option.bind_eq_bind, Option.bind_some, Option.bind_assoc, if_true, Bool.false_eq_true, if_false]
          congr 1; funext v18
          congr 1; funext v19
          unfold ALr QF
          rw [Option.bind_eq_bind, Option.bind_assoc]
          show (iter (ABr n i) (tq v19 [])).bind _ = (iter (ABr n i) (tq v19 [])).bind _
          congr 1; funext o
          cases o with
          | inl _ => rfl
          | inr _ => simp only [Sum.elim_inr, Option.bind_some, Option.bind_assoc]; rfl
      | false =>
      simp only [Bool.false_eq_true, if_false]
      cases h5 : sSees (ByteArray.mk #[97, 115, 115, 101, 114, 116]) ts with
      | true =>
        simp only [if_true]
        refine fun _ => ⟨fun n => r03_Reader_cond (RS L full ts.tail) >>= fun v29 => r03_Reader_must v29.1 (ByteArray.mk #[59]) >>= fun v30 => some (v30, r02_Stmt.mk 6 nB nB zE v29.2 [] [] []), ?_, fun n l => ?_⟩
        · unfold sAssert
          refine TR.bind (π' := Prod.fst) (mk' := mkVr) (cond_TR hl.tail) (fun m r1 q1 => ?_) (fun a c p hc he => herr_get (fun n => by have h : a.1.E ≠ 0 := er_ne hc he; simp only [muste h, namee h, nume h, expre h, Option.bind_eq_bind, Option.bind_some, Option.getD_some]) (by have h : a.1.E ≠ 0 := er_ne hc he; simp only [muste h, namee h, nume h, expre h, Option.bind_eq_bind, Option.bind_some, Option.getD_some]; exact ⟨he.1, he.2⟩))
          have l1 := hl.tail.suf (cond_suf q1).1
          exact TR.bind (π' := Prod.fst) (mk' := mkVr) (must_TR l1 _) (fun _ r2 q2 => TR.pure (fun n => rfl)) (fun a c p hc he => ⟨(a, _), he, fun n => .inl rfl⟩)
        · unfold SBr r03_Reader_stmts_l1
          rw [if_pos (by rfl)]
          simp only [e, e2 l h5, is_R hl, h1, h2, h3, h4, h5, Option.bind_eq_bind, Option.bind_some, Option.bind_assoc, if_true, Bool.false_eq_true, if_false]
          rfl
      | false =>
      simp only [Bool.false_eq_true, if_false]
      cases h6 : sSees (ByteArray.mk #[105, 110, 112, 117, 116]) ts with
      | true =>
        simp only [if_true]
        refine fun _ => ⟨fun n => r03_Reader_name (RS L full ts.tail) >>= fun v32 => r03_Reader_must v32.1 (ByteArray.mk #[59]) >>= fun v33 => some (v33, r02_Stmt.mk 7 v32.2 nB zE zC [] [] []), ?_, fun n l => ?_⟩
        · unfold sInput
          refine TR.bind (π' := Prod.fst) (mk' := mkVr) (name_TR hl.tail) (fun m r1 q1 => ?_) (fun a c p hc he => herr_get (fun n => by have h : a.1.E ≠ 0 := er_ne hc he; simp only [muste h, namee h, nume h, expre h, Option.bind_eq_bind, Option.bind_some, Option.getD_some]) (by have h : a.1.E ≠ 0 := er_ne hc he; simp only [muste h, namee h, nume h, expre h, Option.bind_eq_bind, Option.bind_some, Option.getD_some]; exact ⟨he.1, he.2⟩))
          have l1 := hl.tail.suf (name_suf q1).1
          exact TR.bind (π' := Prod.fst) (mk' := mkVr) (must_TR l1 _) (fun _ r2 q2 => TR.pure (fun n => rfl)) (fun a c p hc he => ⟨(a, _), he, fun n => .inl rfl⟩)
        · unfold SBr r03_Reader_stmts_l1
          rw [if_pos (by rfl)]
          simp only [e, e2 l h6, is_R hl, h1, h2, h3, h4, h5, h6, Option.bind_eq_bind, Option.bind_some, Option.bind_assoc, if_true, Bool.false_eq_true, if_false]
          rfl
      | false =>
      simp only [Bool.false_eq_true, if_false]
      cases h7 : sOf 1 ts with
      | true =>
        simp only [if_true]
        refine fun _ => ⟨fun n => r03_Reader_name (RS L full ts) >>= fun v35 => r03_Reader_must v35.1 (ByteArray.mk #[61]) >>= fun v36 => r03_Reader_expr v36 0 >>= fun v37 => r03_Reader_must v37.1 (ByteArray.mk #[59]) >>= fun v38 => some (v38, r02_Stmt.mk 1 v35.2 nB v37.2 zC [] [] []), ?_, fun n l => ?_⟩
        · unfold sAssign
          refine TR.bind (π' := Prod.fst) (mk' := mkVr) (name_TR hl) (fun m r1 q1 => ?_) (fun a c p hc he => herr_get (fun n => by have h : a.1.E ≠ 0 := er_ne hc he; simp only [muste h, namee h, nume h, expre h, Option.bind_eq_bind, Option.bind_some, Option.getD_some]) (by have h : a.1.E ≠ 0 := er_ne hc he; simp only [muste h, namee h, nume h, expre h, Option.bind_eq_bind, Option.bind_some, Option.getD_some]; exact ⟨he.1, he.2⟩))
          have l1 := hl.suf (name_suf q1).1
          refine TR.bind (π' := Prod.fst) (mk' := mkVr) (must_TR l1 _) (fun _ r2 q2 => ?_) (fun a c p hc he => herr_get (fun n => by have h : a.E ≠ 0 := er_ne hc he; simp only [muste h, namee h, nume h, expre h, Option.bind_eq_bind, Option.bind_some, Option.getD_some]) (by have h : a.E ≠ 0 := er_ne hc he; simp only [muste h, namee h, nume h, expre h, Option.bind_eq_bind, Option.bind_some, Option.getD_some]; exact ⟨he.1, he.2⟩))
          have l2 := l1.suf (must_suf q2).1
          refine TR.bind (π' := Prod.fst) (mk' := mkVr) (expr_TR l2) (fun x r3 q3 => ?_) (fun a c p hc he => herr_get (fun n => by have h : a.1.E ≠ 0 := er_ne hc he; simp only [muste h, namee h, nume h, expre h, Option.bind_eq_bind, Option.bind_some, Option.getD_some]) (by have h : a.1.E ≠ 0 := er_ne hc he; simp only [muste h, namee h, nume h, expre h, Option.bind_eq_bind, Option.bind_some, Option.getD_some]; exact ⟨he.1, he.2⟩))
          have l3 := l2.suf (eX_suf q3)
          exact TR.bind (π' := Prod.fst) (mk' := mkVr) (must_TR l3 _) (fun _ r4 q4 => TR.pure (fun n => rfl)) (fun a c p hc he => ⟨(a, _), he, fun n => .inl rfl⟩)
        · have e3 := e3 l
          rw [h7] at e3
          unfold SBr r03_Reader_stmts_l1
          rw [if_pos (by rfl)]
          simp only [e, e3, is_R hl, h1, h2, h3, h4, h5, h6, Option.bind_eq_bind, Option.bind_some, Option.bind_assoc, if_true, Bool.false_eq_true, if_false]
          rfl
      | false =>
        simp only [Bool.false_eq_true, if_false]
        intro n l
        have e3 := e3 l
        rw [h7] at e3
        unfold SBr r03_Reader_stmts_l1
        rw [if_pos (by rfl)]
        simp only [e, e3, is_R hl, h1, h2, h3, h4, h5, h6, Option.bind_eq_bind, Option.bind_some, Option.bind_assoc, if_true, Bool.false_eq_true, if_false]
        rfl
    · -- an arm
      simp only [sArm]
      refine TR.mono (H := 2 * f + 6) ?_ (by omega)
      unfold ArmR
      have er : ∀ (a : r03_Reader) (s t : ByteArray), a.E ≠ 0 → ∀ n, Sn n (2 * f + 6) (r03_Reader_blockN n a i >>= fun v5 => some (v5.1, (r02_Arm.mk s t v5.2))) (a, .mk s t []) := fun a s t h n => ((blocke h n i).mono (show 2 ≤ 2 * f + 6 by omega)).bind (f := fun v5 => some (v5.1, (r02_Arm.mk s t v5.2))) (.inl rfl)
      refine TR.bind (π' := Prod.fst) (mk' := mkVr) (name_TR hl) (fun t r1 q1 => ?_) (fun r c p hc he => ⟨(r.1, .mk r.2 nB []), he, fun n => by
        have h : r.1.E ≠ 0 := er_ne hc he
        simp only [muste h, namee h, Option.bind_eq_bind, Option.bind_some]
        exact er r.1 r.2 nB h n⟩)
      have l1 := hl.suf (name_suf q1).1
      refine TR.bind (π' := Prod.fst) (mk' := mkVr) (must_TR l1 _) (fun _ r2 q2 => ?_) (fun r c p hc he => ⟨(r, .mk t nB []), he, fun n => by
        have h : r.E ≠ 0 := er_ne hc he
        simp only [muste h, namee h, Option.bind_eq_bind, Option.bind_some]
        exact er r t nB h n⟩)
      have l2 := l1.suf (must_suf q2).1
      refine TR.bind (π' := Prod.fst) (mk' := mkVr) (name_TR l2) (fun w r3 q3 => ?_) (fun r c p hc he => ⟨(r.1, .mk t r.2 []), he, fun n => by
        have h : r.1.E ≠ 0 := er_ne hc he
        simp only [muste h, Option.bind_eq_bind, Option.bind_some]
        exact er r.1 t r.2 h n⟩)
      have l3 := l2.suf (name_suf q3).1
      refine TR.bind (π' := Prod.fst) (mk' := mkVr) (must_TR l3 _) (fun _ r4 q4 => ?_) (fun r c p hc he => ⟨(r, .mk t w []), he, fun n => er r t w (er_ne hc he) n⟩)
      have l4 := l3.suf (must_suf q4).1
      exact TR.bind (π' := Prod.fst) (mk' := mkVr) (ih.block i r4 hi l4) (fun b r5 q5 => TR.pure (fun n => rfl)) (fun r c p hc he => ⟨(r.1, .mk t w r.2), he, fun n => .inl rfl⟩)
    · -- arms
      simp only [sArms]
      refine TR.eq (y := fun n => if sSees (ByteArray.mk #[125]) ts then some (RS L full ts, acc) else ArmR n i (RS L full ts) >>= fun v => ALr n i v.1 (acc ++ [v.2])) ?_ (fun n => ALr_1 hl n i h0 (by omega))
      cases h1 : sSees (ByteArray.mk #[125]) ts with
      | true =>
        simp only [if_true]
        exact TR.pure (fun n => by simp)
      | false =>
        simp only [Bool.false_eq_true, if_false]
        refine TR.mono (H := 2 * f + 6) ?_ (by omega)
        refine TR.bind (π' := Prod.fst) (mk' := fun (v : List r02_Arm) a => (a, acc ++ v)) (ih.arm i ts hi hl) (fun x r ho => ?_) (fun r c p hc he => ⟨(r.1, acc ++ [r.2]), he, fun n => .inl (ALr_e (er_ne hc he) n _ _)⟩)
        have q := sf.arm _ _ _ _ ho
        exact TR.map (g := fun l => x :: l) (ih.arms i r (acc ++ [x]) hi (hl.suf q.1) (by simp) (by simp; omega)) (fun v a => by simp)
    · -- a block
      simp only [sBlock]
      cases h1 : (sSees (ByteArray.mk #[123]) ts && decide (i = 24)) with
      | true =>
        simp only [Bool.and_eq_true, decide_eq_true_eq] at h1
        simp only [if_true]
        obtain ⟨h1, h2⟩ := h1
        subst h2
        refine TR.mono (H := 1) ?_ (by omega)
        refine TR.up (H := 0) (x := fun n => some (⟨full.map tokR, (RS L full ts).I, L, 6, sAt L ts⟩, [])) rfl (fun n => by
          have : decide (((24 : Nat) : Int) ≥ 24) = true := rfl
          simp only [r03_Reader_blockN, is_R hl, h1, Option.bind_eq_bind, Option.bind_some, if_true, this, fail_R hl]) ?_
        exact TR.err (fun n => rfl) (by decide) ⟨rfl, rfl⟩
      | false =>
        simp only [Bool.false_eq_true, if_false]
        have hj : (if sSees (ByteArray.mk #[123]) ts then some (decide ((i : Int) ≥ 24)) else some false) = some false := by
          cases hs : sSees (ByteArray.mk #[123]) ts with
          | false => rfl
          | true =>
            rw [hs] at h1
            have h1 : decide (i = 24) = false := h1
            have : decide ((i : Int) ≥ 24) = false := by simp at h1 ⊢; omega
            rw [this]; rfl
        have wi : IntKind.i64.wrap ((i : Int) + 1) = ((i + 1 : Nat) : Int) := by rw [w64 (by omega) (by omega)]; omega
        refine TR.mono (H := 2 * f + 8) ?_ (by omega)
        refine TR.up (H := 2 * f + 7) (x := fun n => r03_Reader_must (RS L full ts) (ByteArray.mk #[123]) >>= fun v3 => r03_Reader_stmtsN n v3 ((i + 1 : Nat) : Int) >>= fun v4 => r03_Reader_must v4.1 (ByteArray.mk #[125]) >>= fun v5 => some (v5, v4.2)) rfl (fun n => by
          simp only [r03_Reader_blockN, is_R hl, Option.bind_eq_bind, Option.bind_some, hj, Bool.false_eq_true, if_false, wi]) ?_
        refine TR.bind (π' := Prod.fst) (mk' := mkVr) (must_TR hl _) (fun _ r1 q1 => ?_) (fun r c p hc he => ⟨(r, []), he, fun n => by
          have h : r.E ≠ 0 := er_ne hc he
          refine ((stmtse h n _).mono (show 1 ≤ 2 * f + 7 by omega)).bind (f := fun v4 => r03_Reader_must v4.1 (ByteArray.mk #[125]) >>= fun v5 => some (v5, v4.2)) (.inl ?_)
          rw [muste h]; rfl⟩)
        have l1 := hl.suf (must_suf q1).1
        have hi' : i + 1 ≤ 24 := by
          have hs : sSees (ByteArray.mk #[123]) ts = true := by
            unfold sMust at q1
            split at q1
            · assumption
            · cases q1
          rw [hs] at h1
          have h1 : decide (i = 24) = false := h1
          simp at h1; omega
        have hsl : TR L full Prod.fst mkVr (2 * f + 7) (fun n => r03_Reader_stmtsN n (RS L full r1) ((i + 1 : Nat) : Int)) (sStmts L f (i + 1) r1) := TR.up (x := fun n => RLs n ((i + 1 : Nat) : Int) (RS L full r1) []) rfl (fun n => rfl) (by
          have := ih.stmts (i + 1) r1 [] hi' l1 (by simpa using l1.len)
          simpa using this)
        refine TR.bind (π' := Prod.fst) (mk' := mkVr) hsl (fun b r2 q2 => ?_) (fun r c p hc he => ⟨(r.1, r.2), he, fun n => .inl (by rw [muste (er_ne hc he)]; rfl)⟩)
        have l2 := l1.suf (sf.stmts _ _ _ _ q2)
        exact TR.bind (π' := Prod.fst) (mk' := mkVr) (must_TR l2 _) (fun _ r3 q3 => TR.pure (fun n => rfl)) (fun r c p hc he => ⟨(r, b), he, fun n => .inl rfl⟩)

end Go.Proofs.YtokjbpmjdcbogaaGreatDoor.Abs.Par
/- The statements' own reader reads channels, rules, processes and whole systems as parsing does. -/
namespace Go.Proofs.YtokjbpmjdcbogaaGreatDoor.Abs.Par
open Go Go.RowKit Wri
set_option linter.unusedVariables false
set_option linter.unusedSimpArgs false
theorem many_R {β O : Type} {L : Int} {full : List Tok} {body : T6 β → Option (Sum (T6 β) (Sum O (T6 β)))} {more : List Tok → Option (Rs β)} (m : More more)
    (h0 : ∀ ts l, Sf full ts → more ts = none → body (tq (RS L full ts) l) = some (.inr (.inr (tq (RS L full ts) l))))
    (h1 : ∀ ts o, Sf full ts → more ts = some o → ∃ x, TR L full Prod.fst mkVr 0 (fun _ => x) o ∧ ∀ l : List β, l.length ≤ 2000 → body (tq (RS L full ts) l) = x >>= fun v => some (.inl (tq v.1 (l ++ [v.2]))))
    (h2 : ∀ a l, a.E ≠ 0 → body (tq a l) = some (.inr (.inr (tq a l)))) :
    ∀ f ts (l : List β), Sf full ts → l.length + ts.length ≤ 2000 → TR L full Prod.fst (fun (v : List β) a => (a, l ++ v)) 0 (fun _ => QF body (RS L full ts) l) (sMany more f ts) := by
  intro f
  induction f with
  | zero => intro ts l _ _; exact tr_out
  | succ f ih =>
    intro ts l ht hl
    simp only [sMany]
    cases hm : more ts with
    | none => exact TR.pure (fun n => by rw [QF_end (h0 ts l ht hm)]; simp)
    | some o =>
      obtain ⟨x, hx, hb⟩ := h1 ts o ht hm
      refine TR.eq (y := fun _ => x >>= fun v => QF body v.1 (l ++ [v.2])) ?_ (fun n => by
        rw [QF_more (x := x >>= fun v => some (v.1, l ++ [v.2])) (by rw [hb l (by omega)]; simp only [Option.bind_eq_bind, Option.bind_assoc, Option.bind_some])]
        simp only [Option.bind_eq_bind, Option.bind_assoc, Option.bind_some])
      refine TR.bind (π' := Prod.fst) (mk' := fun (v : List β) a => (a, l ++ v)) hx (fun v r ho => ?_) (fun r c p hc he => ⟨(r.1, l ++ [r.2]), he, fun n => .inl (QF_end (h2 r.1 _ (er_ne hc he)))⟩)
      subst ho
      have q := m.suf _ _ _ hm
      exact TR.map (g := fun w => v :: w) (ih r (l ++ [v]) (ht.suf q.1) (by simp; omega)) (fun w a => by simp)
/-! ### Errors -/
theorem kind_it {v1 : r03_Reader × ByteArray} {see : ByteArray → Bool} (hs : ∀ w, r03_Reader_is v1.1 w = some (see w)) (h1 : ∀ w w', see w = true → see w' = true → w = w') :
    iter (r03_Reader_channel_l1 v1) (0, (-1)) = some (.inr (match firstW see kindS with | some j => (j : Int) | none => -1)) := by
  refine last_it0 (see := see) (ws := kindS) (fun k b => (k, b)) id id h1 (by decide) (fun k w best hk hi => ?_) (fun best => ?_) (-1)
  · have hk3 : k < 3 := hk
    unfold r03_Reader_channel_l1
    rw [if_pos (by simp; omega)]
    show (((idx kindS (k : Int) >>= fun v3 => r03_Reader_is v1.1 v3 >>= fun v4 => if v4 then some (k : Int) else some best : Option Int)) >>= fun j2 => some (Sum.inl ((IntKind.i64.wrap ((k : Int) + 1)), j2))) = _
    rw [hi]
    have wk : IntKind.i64.wrap ((k : Int) + 1) = (k : Int) + 1 := w64 (by omega) (by omega)
    simp only [Option.bind_eq_bind, Option.bind_some, hs, wk]
    cases see w <;> simp
  · unfold r03_Reader_channel_l1
    rw [if_neg (by simp [kindS])]; rfl
section
variable {a : r03_Reader} (h : a.E ≠ 0)
include h
theorem kinde (s : ByteArray) : iter (r03_Reader_channel_l1 (a, s)) (0, (-1)) = some (.inr (-1)) := kind_it (see := fun _ => false) (fun w => ise h w) (fun w w' h => by cases h)
theorem tagbr (l : List ByteArray) : r03_Reader_channel_l3 (tq a l) = some (.inr (.inr (tq a l))) := by
  unfold r03_Reader_channel_l3
  show (r03_Reader_is a _ >>= _) = _
  rw [ise h]; rfl
theorem movbr (l : List r02_Move) : r03_Parse_l3 (tq a l) = some (.inr (.inr (tq a l))) := by
  unfold r03_Parse_l3
  rw [if_neg (by simpa [tq] using h)]; rfl
theorem varbr (l : List ByteArray) : r03_Parse_l6 (tq a l) = some (.inr (.inr (tq a l))) := by
  unfold r03_Parse_l6
  show (r03_Reader_is a _ >>= _) = _
  rw [ise h]; rfl
theorem chabr (l : List r02_Chan) : r03_Parse_l1 (tq a l) = some (.inr (.inr (tq a l))) := by
  unfold r03_Parse_l1
  show (r03_Reader_is a _ >>= _) = _
  rw [ise h]; rfl
theorem rulbr (l : List r02_Rule) : r03_Parse_l2 (tq a l) = some (.inr (.inr (tq a l))) := by
  unfold r03_Parse_l2
  show (r03_Reader_is a _ >>= _) = _
  rw [ise h]; rfl
theorem probr (l : List r02_Proc) : r03_Parse_l5 (tq a l) = some (.inr (.inr (tq a l))) := by
  unfold r03_Parse_l5
  show (r03_Reader_is a _ >>= _) = _
  rw [ise h]; rfl
theorem taglr (l : List ByteArray) : QF r03_Reader_channel_l3 a l = some (a, l) := QF_end (tagbr h l)
theorem movlr (l : List r02_Move) : QF r03_Parse_l3 a l = some (a, l) := QF_end (movbr h l)
theorem varlr (l : List ByteArray) : QF r03_Parse_l6 a l = some (a, l) := QF_end (varbr h l)
end
instance : Inhabited r02_Move := ⟨⟨0, nB, 0⟩⟩
instance : Inhabited r02_Chan := ⟨⟨nB, 0, 0, nB, nB, []⟩⟩
instance : Inhabited r02_Rule := ⟨⟨nB, []⟩⟩
instance : Inhabited r02_Proc := ⟨⟨nB, [], []⟩⟩
/-! ### Channels, rules, processes -/
noncomputable def chanR (v1 : r03_Reader × ByteArray) (j1 : Int) : Option (r03_Reader × r02_Chan) :=
  if (decide (j1 < 0)) then (r03_Reader_fail v1.1 5 >>= fun v4 => some (v4, (r02_Chan.mk v1.2 j1 0 (ByteArray.mk #[]) (ByteArray.mk #[]) [])))
  else (r03_Reader_number (r03_Reader.mk v1.1.L (IntKind.i64.wrap (v1.1.I + 1)) v1.1.End v1.1.E v1.1.At) >>= fun v5 => r03_Reader_must v5.1 (ByteArray.mk #[102, 114, 111, 109]) >>= fun v6 => r03_Reader_name v6 >>= fun v7 => r03_Reader_must v7.1 (ByteArray.mk #[116, 111]) >>= fun v8 => r03_Reader_name v8 >>= fun v9 => r03_Reader_must v9.1 (ByteArray.mk #[123]) >>= fun v10 =>
    r03_Reader_name v10 >>= fun v11 => app 16 [] [v11.2] >>= fun v12 => QF r03_Reader_channel_l3 v11.1 v12 >>= fun w => r03_Reader_must w.1 (ByteArray.mk #[125]) >>= fun v16 => r03_Reader_must v16 (ByteArray.mk #[59]) >>= fun v17 => some (v17, (r02_Chan.mk v1.2 j1 v5.2 v7.2 v9.2 w.2)))
theorem chanR_eq (a : r03_Reader) : r03_Reader_channel a = r03_Reader_name a >>= fun v1 => iter (r03_Reader_channel_l1 v1) (0, (-1)) >>= Sum.elim (fun _ => none) (chanR v1) := by
  unfold chanR
  simp only [← QF_use]; rfl
noncomputable def ruleR (a : r03_Reader) : Option (r03_Reader × r02_Rule) := r03_Reader_name a >>= fun v6 => r03_Reader_must v6.1 (ByteArray.mk #[123]) >>= fun v7 => QF r03_Parse_l3 v7 [] >>= fun w => r03_Reader_must w.1 (ByteArray.mk #[125]) >>= fun v14 => some (v14, (r02_Rule.mk v6.2 w.2))
noncomputable def procR (a : r03_Reader) : Option (r03_Reader × r02_Proc) := r03_Reader_name a >>= fun v17 => r03_Reader_must v17.1 (ByteArray.mk #[123]) >>= fun v18 => QF r03_Parse_l6 v18 [] >>= fun w => r03_Reader_stmts w.1 0 >>= fun v23 => r03_Reader_must v23.1 (ByteArray.mk #[125]) >>= fun v24 => some (v24, (r02_Proc.mk v17.2 w.2 v23.2))
section
variable {L : Int} {full ts : List Tok}
theorem tags_TR {t : ByteArray} (hs : Sf full ts) (hl : ts.length + 1 ≤ 2000) : TR L full Prod.fst (fun (v : List ByteArray) a => (a, [t] ++ v)) 0 (fun _ => QF r03_Reader_channel_l3 (RS L full ts) [t]) (sMany (mTag L) (ts.length + 1) ts) := by
  refine many_R mTag_m (fun ts l ht hm => ?_) (fun ts o ht hm => ?_) (fun a l h => tagbr h l) _ ts [t] hs (by simp; omega)
  · unfold mTag at hm
    cases hs : sSees (ByteArray.mk #[44]) ts with
    | true => rw [hs] at hm; cases hm
    | false =>
      unfold r03_Reader_channel_l3
      show (r03_Reader_is (RS L full ts) _ >>= _) = _
      rw [is_R ht, hs]; rfl
  · unfold mTag at hm
    cases hs : sSees (ByteArray.mk #[44]) ts with
    | false => rw [hs] at hm; cases hm
    | true =>
      rw [hs] at hm; injection hm with hm; subst hm
      refine ⟨r03_Reader_name (RS L full ts.tail), name_TR ht.tail, fun l hll => ?_⟩
      unfold r03_Reader_channel_l3
      show (r03_Reader_is (RS L full ts) _ >>= _) = _
      rw [is_R ht, hs]
      simp only [Option.bind_eq_bind, Option.bind_some, if_true]
      have e : r03_Reader.mk (tq (RS L full ts) l).1 (IntKind.i64.wrap ((tq (RS L full ts) l).2.1 + 1)) (tq (RS L full ts) l).2.2.1 (tq (RS L full ts) l).2.2.2.1 (tq (RS L full ts) l).2.2.2.2.1 = RS L full ts.tail := adv_R ht hs
      rw [e]
      congr 1; funext v
      show (app 16 l [v.2]).bind _ = _
      rw [app_ok (by simp; omega)]; rfl
theorem chan_TR {H : Nat} (hl : Sf full ts) : TR L full Prod.fst mkVr H (fun _ => r03_Reader_channel (RS L full ts)) (sChan L ts) := by
  refine TR.eq (y := fun _ => _) ?_ (fun _ => chanR_eq _)
  unfold sChan
  refine TR.bind (π' := Prod.fst) (mk' := mkVr) (name_TR hl) (fun m r1 h1 => ?_) (fun a c p hc he => ⟨(a.1, ⟨a.2, -1, 0, nB, nB, []⟩), he, fun n => .inl (by
    have h : a.1.E ≠ 0 := er_ne hc he
    rw [show iter (r03_Reader_channel_l1 a) (0, (-1)) = _ from kinde (a := a.1) h a.2]
    unfold chanR
    simp only [Option.bind_eq_bind, Option.bind_some, Sum.elim_inr, neg1, if_true, faile h])⟩)
  have l1 := hl.suf (name_suf h1).1
  have e := kind_it (v1 := (RS L full r1, m)) (see := fun w => sSees w r1) (fun w => is_R l1 w) (fun w w' h h' => sees_one h h')
  rw [← first_which] at e
  cases hs : sWhich kindS r1 with
  | none =>
    rw [hs] at e
    refine TR.err (r := (⟨full.map tokR, (RS L full r1).I, L, 5, sAt L r1⟩, ⟨m, -1, 0, nB, nB, []⟩)) (fun n => ?_) (by decide) ⟨rfl, rfl⟩
    rw [e]
    unfold chanR
    simp only [Option.bind_eq_bind, Option.bind_some, Sum.elim_inr, neg1, if_true, fail_R l1]
  | some j =>
    rw [hs] at e
    obtain ⟨w, hw⟩ := which_sees hs
    have q1 : decide (((j : Nat) : Int) < 0) = false := by simp
    refine TR.eq (y := fun _ => r03_Reader_number (RS L full r1.tail) >>= fun v5 => r03_Reader_must v5.1 (ByteArray.mk #[102, 114, 111, 109]) >>= fun v6 => r03_Reader_name v6 >>= fun v7 => r03_Reader_must v7.1 (ByteArray.mk #[116, 111]) >>= fun v8 => r03_Reader_name v8 >>= fun v9 => r03_Reader_must v9.1 (ByteArray.mk #[123]) >>= fun v10 =>
      r03_Reader_name v10 >>= fun v11 => app 16 [] [v11.2] >>= fun v12 => QF r03_Reader_channel_l3 v11.1 v12 >>= fun w => r03_Reader_must w.1 (ByteArray.mk #[125]) >>= fun v16 => r03_Reader_must v16 (ByteArray.mk #[59]) >>= fun v17 => some (v17, (r02_Chan.mk m (j : Int) v5.2 v7.2 v9.2 w.2))) ?_ (fun n => by
      rw [e]
      unfold chanR
      simp only [Option.bind_eq_bind, Option.bind_some, Sum.elim_inr, q1, Bool.false_eq_true, if_false, adv_R l1 hw])
    refine TR.bind (π' := Prod.fst) (mk' := mkVr) (num_TR l1.tail) (fun z r2 h2 => ?_) (fun a c p hc he => herr_get (fun n => by have h : a.1.E ≠ 0 := er_ne hc he; simp only [muste h, namee h, nume h, expre h, taglr h, movlr h, varlr h, stmtsre h, app_nil16, Option.bind_eq_bind, Option.bind_some, Option.getD_some]) (by have h : a.1.E ≠ 0 := er_ne hc he; simp only [muste h, namee h, nume h, expre h, taglr h, movlr h, varlr h, stmtsre h, app_nil16, Option.bind_eq_bind, Option.bind_some, Option.getD_some]; exact ⟨he.1, he.2⟩))
    have l2 := l1.tail.suf (num_suf h2).1
    refine TR.bind (π' := Prod.fst) (mk' := mkVr) (must_TR l2 _) (fun _ r3 h3 => ?_) (fun a c p hc he => herr_get (fun n => by have h : a.E ≠ 0 := er_ne hc he; simp only [muste h, namee h, nume h, expre h, taglr h, movlr h, varlr h, stmtsre h, app_nil16, Option.bind_eq_bind, Option.bind_some, Option.getD_some]) (by have h : a.E ≠ 0 := er_ne hc he; simp only [muste h, namee h, nume h, expre h, taglr h, movlr h, varlr h, stmtsre h, app_nil16, Option.bind_eq_bind, Option.bind_some, Option.getD_some]; exact ⟨he.1, he.2⟩))
    have l3 := l2.suf (must_suf h3).1
    refine TR.bind (π' := Prod.fst) (mk' := mkVr) (name_TR l3) (fun a r4 h4 => ?_) (fun a c p hc he => herr_get (fun n => by have h : a.1.E ≠ 0 := er_ne hc he; simp only [muste h, namee h, nume h, expre h, taglr h, movlr h, varlr h, stmtsre h, app_nil16, Option.bind_eq_bind, Option.bind_some, Option.getD_some]) (by have h : a.1.E ≠ 0 := er_ne hc he; simp only [muste h, namee h, nume h, expre h, taglr h, movlr h, varlr h, stmtsre h, app_nil16, Option.bind_eq_bind, Option.bind_some, Option.getD_some]; exact ⟨he.1, he.2⟩))
    have l4 := l3.suf (name_suf h4).1
    refine TR.bind (π' := Prod.fst) (mk' := mkVr) (must_TR l4 _) (fun _ r5 h5 => ?_) (fun a c p hc he => herr_get (fun n => by have h : a.E ≠ 0 := er_ne hc he; simp only [muste h, namee h, nume h, expre h, taglr h, movlr h, varlr h, stmtsre h, app_nil16, Option.bind_eq_bind, Option.bind_some, Option.getD_some]) (by have h : a.E ≠ 0 := er_ne hc he; simp only [muste h, namee h, nume h, expre h, taglr h, movlr h, varlr h, stmtsre h, app_nil16, Option.bind_eq_bind, Option.bind_some, Option.getD_some]; exact ⟨he.1, he.2⟩))
    have l5 := l4.suf (must_suf h5).1
    refine TR.bind (π' := Prod.fst) (mk' := mkVr) (name_TR l5) (fun b r6 h6 => ?_) (fun a c p hc he => herr_get (fun n => by have h : a.1.E ≠ 0 := er_ne hc he; simp only [muste h, namee h, nume h, expre h, taglr h, movlr h, varlr h, stmtsre h, app_nil16, Option.bind_eq_bind, Option.bind_some, Option.getD_some]) (by have h : a.1.E ≠ 0 := er_ne hc he; simp only [muste h, namee h, nume h, expre h, taglr h, movlr h, varlr h, stmtsre h, app_nil16, Option.bind_eq_bind, Option.bind_some, Option.getD_some]; exact ⟨he.1, he.2⟩))
    have l6 := l5.suf (name_suf h6).1
    refine TR.bind (π' := Prod.fst) (mk' := mkVr) (must_TR l6 _) (fun _ r7 h7 => ?_) (fun a c p hc he => herr_get (fun n => by have h : a.E ≠ 0 := er_ne hc he; simp only [muste h, namee h, nume h, expre h, taglr h, movlr h, varlr h, stmtsre h, app_nil16, Option.bind_eq_bind, Option.bind_some, Option.getD_some]) (by have h : a.E ≠ 0 := er_ne hc he; simp only [muste h, namee h, nume h, expre h, taglr h, movlr h, varlr h, stmtsre h, app_nil16, Option.bind_eq_bind, Option.bind_some, Option.getD_some]; exact ⟨he.1, he.2⟩))
    have l7 := l6.suf (must_suf h7).1
    refine TR.bind (π' := Prod.fst) (mk' := mkVr) (name_TR l7) (fun t r8 h8 => ?_) (fun a c p hc he => herr_get (fun n => by have h : a.1.E ≠ 0 := er_ne hc he; simp only [muste h, namee h, nume h, expre h, taglr h, movlr h, varlr h, stmtsre h, app_nil16, Option.bind_eq_bind, Option.bind_some, Option.getD_some]) (by have h : a.1.E ≠ 0 := er_ne hc he; simp only [muste h, namee h, nume h, expre h, taglr h, movlr h, varlr h, stmtsre h, app_nil16, Option.bind_eq_bind, Option.bind_some, Option.getD_some]; exact ⟨he.1, he.2⟩))
    have z8 := (name_suf h8).2
    have z7 := l7.len
    have l8 := l7.suf (name_suf h8).1
    refine TR.eq (y := fun _ => QF r03_Reader_channel_l3 (RS L full r8) [t] >>= fun w => r03_Reader_must w.1 (ByteArray.mk #[125]) >>= fun v15 => r03_Reader_must v15 (ByteArray.mk #[59]) >>= fun v16 => some (v16, (r02_Chan.mk m (j : Int) z a b w.2))) ?_ (fun n => rfl)
    refine TR.bind (π' := Prod.fst) (mk' := mkVr) ((tags_TR (t := t) l8 (by omega)).mono (Nat.zero_le _)) (fun l r9 h9 => ?_) (fun a c p hc he => herr_get (fun n => by have h : a.1.E ≠ 0 := er_ne hc he; simp only [muste h, namee h, nume h, expre h, taglr h, movlr h, varlr h, stmtsre h, app_nil16, Option.bind_eq_bind, Option.bind_some, Option.getD_some]) (by have h : a.1.E ≠ 0 := er_ne hc he; simp only [muste h, namee h, nume h, expre h, taglr h, movlr h, varlr h, stmtsre h, app_nil16, Option.bind_eq_bind, Option.bind_some, Option.getD_some]; exact ⟨he.1, he.2⟩))
    have l9 := l8.suf (many_suf mTag_m _ _ _ _ h9)
    refine TR.bind (π' := Prod.fst) (mk' := mkVr) (must_TR l9 _) (fun _ r10 h10 => ?_) (fun a c p hc he => herr_get (fun n => by have h : a.E ≠ 0 := er_ne hc he; simp only [muste h, namee h, nume h, expre h, taglr h, movlr h, varlr h, stmtsre h, app_nil16, Option.bind_eq_bind, Option.bind_some, Option.getD_some]) (by have h : a.E ≠ 0 := er_ne hc he; simp only [muste h, namee h, nume h, expre h, taglr h, movlr h, varlr h, stmtsre h, app_nil16, Option.bind_eq_bind, Option.bind_some, Option.getD_some]; exact ⟨he.1, he.2⟩))
    have l10 := l9.suf (must_suf h10).1
    exact TR.bind (π' := Prod.fst) (mk' := mkVr) (must_TR l10 _) (fun _ r11 h11 => TR.pure (fun n => rfl)) (fun r c p hc he => ⟨(r, ⟨m, (j : Int), z, a, b, [t] ++ l⟩), he, fun n => .inl rfl⟩)
theorem move_TR (hl : Sf full ts) : TR L full Prod.fst mkVr 0 (fun _ => r03_Reader_number (RS L full ts) >>= fun v4 => r03_Reader_name v4.1 >>= fun v5 => r03_Reader_number v5.1 >>= fun v6 => r03_Reader_must v6.1 (ByteArray.mk #[59]) >>= fun v7 => some (v7, r02_Move.mk v4.2 v5.2 v6.2)) (sMove L ts) := by
  unfold sMove
  refine TR.bind (π' := Prod.fst) (mk' := mkVr) (num_TR hl) (fun a r1 h1 => ?_) (fun a c p hc he => herr_get (fun n => by have h : a.1.E ≠ 0 := er_ne hc he; simp only [muste h, namee h, nume h, expre h, taglr h, movlr h, varlr h, stmtsre h, app_nil16, Option.bind_eq_bind, Option.bind_some, Option.getD_some]) (by have h : a.1.E ≠ 0 := er_ne hc he; simp only [muste h, namee h, nume h, expre h, taglr h, movlr h, varlr h, stmtsre h, app_nil16, Option.bind_eq_bind, Option.bind_some, Option.getD_some]; exact ⟨he.1, he.2⟩))
  have l1 := hl.suf (num_suf h1).1
  refine TR.bind (π' := Prod.fst) (mk' := mkVr) (name_TR l1) (fun t r2 h2 => ?_) (fun a c p hc he => herr_get (fun n => by have h : a.1.E ≠ 0 := er_ne hc he; simp only [muste h, namee h, nume h, expre h, taglr h, movlr h, varlr h, stmtsre h, app_nil16, Option.bind_eq_bind, Option.bind_some, Option.getD_some]) (by have h : a.1.E ≠ 0 := er_ne hc he; simp only [muste h, namee h, nume h, expre h, taglr h, movlr h, varlr h, stmtsre h, app_nil16, Option.bind_eq_bind, Option.bind_some, Option.getD_some]; exact ⟨he.1, he.2⟩))
  have l2 := l1.suf (name_suf h2).1
  refine TR.bind (π' := Prod.fst) (mk' := mkVr) (num_TR l2) (fun b r3 h3 => ?_) (fun a c p hc he => herr_get (fun n => by have h : a.1.E ≠ 0 := er_ne hc he; simp only [muste h, namee h, nume h, expre h, taglr h, movlr h, varlr h, stmtsre h, app_nil16, Option.bind_eq_bind, Option.bind_some, Option.getD_some]) (by have h : a.1.E ≠ 0 := er_ne hc he; simp only [muste h, namee h, nume h, expre h, taglr h, movlr h, varlr h, stmtsre h, app_nil16, Option.bind_eq_bind, Option.bind_some, Option.getD_some]; exact ⟨he.1, he.2⟩))
  have l3 := l2.suf (num_suf h3).1
  exact TR.bind (π' := Prod.fst) (mk' := mkVr) (must_TR l3 _) (fun _ r4 h4 => TR.pure (fun n => rfl)) (fun r c p hc he => ⟨(r, ⟨a, t, b⟩), he, fun n => .inl rfl⟩)
theorem moves_TR (hl : Sf full ts) : TR L full Prod.fst (fun (v : List r02_Move) a => (a, [] ++ v)) 0 (fun _ => QF r03_Parse_l3 (RS L full ts) []) (sMany (mMove L) (ts.length + 1) ts) := by
  refine many_R mMove_m (fun ts l ht hm => ?_) (fun ts o ht hm => ?_) (fun a l h => movbr h l) _ ts [] hl (by simpa using hl.len)
  · unfold mMove at hm
    cases hs : sSees (ByteArray.mk #[125]) ts with
    | false => rw [hs] at hm; cases hm
    | true =>
      unfold r03_Parse_l3
      rw [if_pos (by rfl)]
      show ((r03_Reader_is (RS L full ts) (ByteArray.mk #[125]) >>= fun v5 => some (!v5)) >>= _) = _
      rw [is_R ht, hs]; rfl
  · unfold mMove at hm
    cases hs : sSees (ByteArray.mk #[125]) ts with
    | true => rw [hs] at hm; cases hm
    | false =>
      rw [hs] at hm; injection hm with hm; subst hm
      refine ⟨_, move_TR ht, fun l hll => ?_⟩
      unfold r03_Parse_l3
      rw [if_pos (by rfl)]
      show ((r03_Reader_is (RS L full ts) (ByteArray.mk #[125]) >>= fun v5 => some (!v5)) >>= _) = _
      rw [is_R ht, hs]
      simp only [Option.bind_eq_bind, Option.bind_some, Bool.not_false, if_true, Option.bind_assoc]
      congr 1; funext v4
      congr 1; funext v5
      congr 1; funext v6
      congr 1; funext v7
      show (app 32 l [_]).bind _ = _
      rw [app_ok (by simp; omega)]; rfl
theorem rule_TR (hl : Sf full ts) : TR L full Prod.fst mkVr 0 (fun _ => ruleR (RS L full ts)) (sRule L ts) := by
  unfold sRule ruleR
  refine TR.bind (π' := Prod.fst) (mk' := mkVr) (name_TR hl) (fun m r1 h1 => ?_) (fun a c p hc he => herr_get (fun n => by have h : a.1.E ≠ 0 := er_ne hc he; simp only [muste h, namee h, nume h, expre h, taglr h, movlr h, varlr h, stmtsre h, app_nil16, Option.bind_eq_bind, Option.bind_some, Option.getD_some]) (by have h : a.1.E ≠ 0 := er_ne hc he; simp only [muste h, namee h, nume h, expre h, taglr h, movlr h, varlr h, stmtsre h, app_nil16, Option.bind_eq_bind, Option.bind_some, Option.getD_some]; exact ⟨he.1, he.2⟩))
  have l1 := hl.suf (name_suf h1).1
  refine TR.bind (π' := Prod.fst) (mk' := mkVr) (must_TR l1 _) (fun _ r2 h2 => ?_) (fun a c p hc he => herr_get (fun n => by have h : a.E ≠ 0 := er_ne hc he; simp only [muste h, namee h, nume h, expre h, taglr h, movlr h, varlr h, stmtsre h, app_nil16, Option.bind_eq_bind, Option.bind_some, Option.getD_some]) (by have h : a.E ≠ 0 := er_ne hc he; simp only [muste h, namee h, nume h, expre h, taglr h, movlr h, varlr h, stmtsre h, app_nil16, Option.bind_eq_bind, Option.bind_some, Option.getD_some]; exact ⟨he.1, he.2⟩))
  have l2 := l1.suf (must_suf h2).1
  refine TR.bind (π' := Prod.fst) (mk' := mkVr) (moves_TR l2) (fun l r3 h3 => ?_) (fun a c p hc he => herr_get (fun n => by have h : a.1.E ≠ 0 := er_ne hc he; simp only [muste h, namee h, nume h, expre h, taglr h, movlr h, varlr h, stmtsre h, app_nil16, Option.bind_eq_bind, Option.bind_some, Option.getD_some]) (by have h : a.1.E ≠ 0 := er_ne hc he; simp only [muste h, namee h, nume h, expre h, taglr h, movlr h, varlr h, stmtsre h, app_nil16, Option.bind_eq_bind, Option.bind_some, Option.getD_some]; exact ⟨he.1, he.2⟩))
  have l3 := l2.suf (many_suf mMove_m _ _ _ _ h3)
  exact TR.bind (π' := Prod.fst) (mk' := mkVr) (must_TR l3 _) (fun _ r4 h4 => TR.pure (fun n => rfl)) (fun r c p hc he => ⟨(r, ⟨m, [] ++ l⟩), he, fun n => .inl rfl⟩)
theorem vars_TR (hl : Sf full ts) : TR L full Prod.fst (fun (v : List ByteArray) a => (a, [] ++ v)) 0 (fun _ => QF r03_Parse_l6 (RS L full ts) []) (sMany (mVar L) (ts.length + 1) ts) := by
  refine many_R mVar_m (fun ts l ht hm => ?_) (fun ts o ht hm => ?_) (fun a l h => varbr h l) _ ts [] hl (by simpa using hl.len)
  · unfold mVar at hm
    cases hs : sSees (ByteArray.mk #[118, 97, 114]) ts with
    | true => rw [hs] at hm; cases hm
    | false =>
      unfold r03_Parse_l6
      show (r03_Reader_is (RS L full ts) _ >>= _) = _
      rw [is_R ht, hs]; rfl
  · unfold mVar at hm
    cases hs : sSees (ByteArray.mk #[118, 97, 114]) ts with
    | false => rw [hs] at hm; cases hm
    | true =>
      rw [hs] at hm; injection hm with hm; subst hm
      refine ⟨r03_Reader_name (RS L full ts.tail) >>= fun v4 => r03_Reader_must v4.1 (ByteArray.mk #[59]) >>= fun v6 => some (v6, v4.2), ?_, fun l hll => ?_⟩
      · refine TR.bind (π' := Prod.fst) (mk' := mkVr) (name_TR ht.tail) (fun m r1 h1 => ?_) (fun a c p hc he => herr_get (fun n => by have h : a.1.E ≠ 0 := er_ne hc he; simp only [muste h, namee h, nume h, expre h, taglr h, movlr h, varlr h, stmtsre h, app_nil16, Option.bind_eq_bind, Option.bind_some, Option.getD_some]) (by have h : a.1.E ≠ 0 := er_ne hc he; simp only [muste h, namee h, nume h, expre h, taglr h, movlr h, varlr h, stmtsre h, app_nil16, Option.bind_eq_bind, Option.bind_some, Option.getD_some]; exact ⟨he.1, he.2⟩))
        exact TR.bind (π' := Prod.fst) (mk' := mkVr) (must_TR (ht.tail.suf (name_suf h1).1) _) (fun _ r2 h2 => TR.pure (fun n => rfl)) (fun r c p hc he => ⟨(r, m), he, fun n => .inl rfl⟩)
      · unfold r03_Parse_l6
        show (r03_Reader_is (RS L full ts) _ >>= _) = _
        rw [is_R ht, hs]
        have e : r03_Reader.mk (tq (RS L full ts) l).1 (IntKind.i64.wrap ((tq (RS L full ts) l).2.1 + 1)) (tq (RS L full ts) l).2.2.1 (tq (RS L full ts) l).2.2.2.1 (tq (RS L full ts) l).2.2.2.2.1 = RS L full ts.tail := adv_R ht hs
        simp only [Option.bind_eq_bind, Option.bind_some, if_true, Option.bind_assoc, e]
        congr 1; funext v
        show (app 16 l [v.2]).bind _ = _
        rw [app_ok (by simp; omega)]; rfl
theorem body_TR {H : Nat} (hl : Sf full ts) : TR L full Prod.fst mkVr H (fun _ => r03_Reader_stmts (RS L full ts) 0) (sBody L ts) := by
  have h := (pu L full (3 * ts.length + 2)).stmts 0 ts [] (by omega) hl (by simpa using hl.len)
  have h := TR.up (F := fun n => r03_Reader_stmtsN n (RS L full ts) 0) rfl (fun n => rfl) h
  have h := h.unf.mono (Nat.zero_le H)
  intro hne
  obtain ⟨r, g, s⟩ := h hne
  refine ⟨r, ?_, s⟩
  unfold sBody
  simpa using g
theorem proc_TR (hl : Sf full ts) : TR L full Prod.fst mkVr 0 (fun _ => procR (RS L full ts)) (sProc L ts) := by
  unfold sProc procR
  refine TR.bind (π' := Prod.fst) (mk' := mkVr) (name_TR hl) (fun m r1 h1 => ?_) (fun a c p hc he => herr_get (fun n => by have h : a.1.E ≠ 0 := er_ne hc he; simp only [muste h, namee h, nume h, expre h, taglr h, movlr h, varlr h, stmtsre h, app_nil16, Option.bind_eq_bind, Option.bind_some, Option.getD_some]) (by have h : a.1.E ≠ 0 := er_ne hc he; simp only [muste h, namee h, nume h, expre h, taglr h, movlr h, varlr h, stmtsre h, app_nil16, Option.bind_eq_bind, Option.bind_some, Option.getD_some]; exact ⟨he.1, he.2⟩))
  have l1 := hl.suf (name_suf h1).1
  refine TR.bind (π' := Prod.fst) (mk' := mkVr) (must_TR l1 _) (fun _ r2 h2 => ?_) (fun a c p hc he => herr_get (fun n => by have h : a.E ≠ 0 := er_ne hc he; simp only [muste h, namee h, nume h, expre h, taglr h, movlr h, varlr h, stmtsre h, app_nil16, Option.bind_eq_bind, Option.bind_some, Option.getD_some]) (by have h : a.E ≠ 0 := er_ne hc he; simp only [muste h, namee h, nume h, expre h, taglr h, movlr h, varlr h, stmtsre h, app_nil16, Option.bind_eq_bind, Option.bind_some, Option.getD_some]; exact ⟨he.1, he.2⟩))
  have l2 := l1.suf (must_suf h2).1
  refine TR.bind (π' := Prod.fst) (mk' := mkVr) (vars_TR l2) (fun l r3 h3 => ?_) (fun a c p hc he => herr_get (fun n => by have h : a.1.E ≠ 0 := er_ne hc he; simp only [muste h, namee h, nume h, expre h, taglr h, movlr h, varlr h, stmtsre h, app_nil16, Option.bind_eq_bind, Option.bind_some, Option.getD_some]) (by have h : a.1.E ≠ 0 := er_ne hc he; simp only [muste h, namee h, nume h, expre h, taglr h, movlr h, varlr h, stmtsre h, app_nil16, Option.bind_eq_bind, Option.bind_some, Option.getD_some]; exact ⟨he.1, he.2⟩))
  have l3 := l2.suf (many_suf mVar_m _ _ _ _ h3)
  refine TR.bind (π' := Prod.fst) (mk' := mkVr) (body_TR l3) (fun b r4 h4 => ?_) (fun a c p hc he => herr_get (fun n => by have h : a.1.E ≠ 0 := er_ne hc he; simp only [muste h, namee h, nume h, expre h, taglr h, movlr h, varlr h, stmtsre h, app_nil16, Option.bind_eq_bind, Option.bind_some, Option.getD_some]) (by have h : a.1.E ≠ 0 := er_ne hc he; simp only [muste h, namee h, nume h, expre h, taglr h, movlr h, varlr h, stmtsre h, app_nil16, Option.bind_eq_bind, Option.bind_some, Option.getD_some]; exact ⟨he.1, he.2⟩))
  have l4 := l3.suf (body_suf h4)
  exact TR.bind (π' := Prod.fst) (mk' := mkVr) (must_TR l4 _) (fun _ r5 h5 => TR.pure (fun n => rfl)) (fun r c p hc he => ⟨(r, ⟨m, [] ++ l, b⟩), he, fun n => .inl rfl⟩)
theorem chans_TR (hl : Sf full ts) : TR L full Prod.fst (fun (v : List r02_Chan) a => (a, [] ++ v)) 0 (fun _ => QF r03_Parse_l1 (RS L full ts) []) (sMany (mChan L) (ts.length + 1) ts) := by
  refine many_R mChan_m (fun ts l ht hm => ?_) (fun ts o ht hm => ?_) (fun a l h => chabr h l) _ ts [] hl (by simpa using hl.len)
  · unfold mChan at hm
    cases hs : sSees (ByteArray.mk #[99, 104, 97, 110]) ts with
    | true => rw [hs] at hm; cases hm
    | false =>
      unfold r03_Parse_l1
      show (r03_Reader_is (RS L full ts) _ >>= _) = _
      rw [is_R ht, hs]; rfl
  · unfold mChan at hm
    cases hs : sSees (ByteArray.mk #[99, 104, 97, 110]) ts with
    | false => rw [hs] at hm; cases hm
    | true =>
      rw [hs] at hm; injection hm with hm; subst hm
      refine ⟨r03_Reader_channel (RS L full ts.tail), chan_TR ht.tail, fun l hll => ?_⟩
      unfold r03_Parse_l1
      show (r03_Reader_is (RS L full ts) _ >>= _) = _
      rw [is_R ht, hs]
      have e : r03_Reader.mk (tq (RS L full ts) l).1 (IntKind.i64.wrap ((tq (RS L full ts) l).2.1 + 1)) (tq (RS L full ts) l).2.2.1 (tq (RS L full ts) l).2.2.2.1 (tq (RS L full ts) l).2.2.2.2.1 = RS L full ts.tail := adv_R ht hs
      simp only [Option.bind_eq_bind, Option.bind_some, if_true, e]
      congr 1; funext v
      show (app 88 l [v.2]).bind _ = _
      rw [app_ok (by simp; omega)]; rfl
theorem rules_TR (hl : Sf full ts) : TR L full Prod.fst (fun (v : List r02_Rule) a => (a, [] ++ v)) 0 (fun _ => QF r03_Parse_l2 (RS L full ts) []) (sMany (mRule L) (ts.length + 1) ts) := by
  refine many_R mRule_m (fun ts l ht hm => ?_) (fun ts o ht hm => ?_) (fun a l h => rulbr h l) _ ts [] hl (by simpa using hl.len)
  · unfold mRule at hm
    cases hs : sSees (ByteArray.mk #[114, 117, 108, 101]) ts with
    | true => rw [hs] at hm; cases hm
    | false =>
      unfold r03_Parse_l2
      show (r03_Reader_is (RS L full ts) _ >>= _) = _
      rw [is_R ht, hs]; rfl
  · unfold mRule at hm
    cases hs : sSees (ByteArray.mk #[114, 117, 108, 101]) ts with
    | false => rw [hs] at hm; cases hm
    | true =>
      rw [hs] at hm; injection hm with hm; subst hm
      refine ⟨ruleR (RS L full ts.tail), rule_TR ht.tail, fun l hll => ?_⟩
      unfold r03_Parse_l2
      show (r03_Reader_is (RS L full ts) _ >>= _) = _
      rw [is_R ht, hs]
      have e : r03_Reader.mk (tq (RS L full ts) l).1 (IntKind.i64.wrap ((tq (RS L full ts) l).2.1 + 1)) (tq (RS L full ts) l).2.2.1 (tq (RS L full ts) l).2.2.2.1 (tq (RS L full ts) l).2.2.2.2.1 = RS L full ts.tail := adv_R ht hs
      simp only [Option.bind_eq_bind, Option.bind_some, if_true, e]
      unfold ruleR
      simp only [Option.bind_eq_bind, Option.bind_some, Option.bind_assoc]
      congr 1; funext v6
      congr 1; funext v7
      refine Eq.trans ?_ (QF_use (body := r03_Parse_l3) (a := v7) (l := []) _)
      show (iter r03_Parse_l3 (tq v7 [])).bind _ = (iter r03_Parse_l3 (tq v7 [])).bind _
      congr 1; funext o
      cases o with
      | inl _ => rfl
      | inr j3 =>
        simp only [Sum.elim_inr]
        congr 1; funext v14
        show (app 40 l [_]).bind _ = _
        rw [app_ok (by simp; omega)]; rfl
theorem procs_TR (hl : Sf full ts) : TR L full Prod.fst (fun (v : List r02_Proc) a => (a, [] ++ v)) 0 (fun _ => QF r03_Parse_l5 (RS L full ts) []) (sMany (mProc L) (ts.length + 1) ts) := by
  refine many_R mProc_m (fun ts l ht hm => ?_) (fun ts o ht hm => ?_) (fun a l h => probr h l) _ ts [] hl (by simpa using hl.len)
  · unfold mProc at hm
    cases hs : sSees (ByteArray.mk #[112, 114, 111, 99]) ts with
    | true => rw [hs] at hm; cases hm
    | false =>
      unfold r03_Parse_l5
      show (r03_Reader_is (RS L full ts) _ >>= _) = _
      rw [is_R ht, hs]; rfl
  · unfold mProc at hm
    cases hs : sSees (ByteArray.mk #[112, 114, 111, 99]) ts with
    | false => rw [hs] at hm; cases hm
    | true =>
      rw [hs] at hm; injection hm with hm; subst hm
      refine ⟨procR (RS L full ts.tail), proc_TR ht.tail, fun l hll => ?_⟩
      unfold r03_Parse_l5
      show (r03_Reader_is (RS L full ts) _ >>= _) = _
      rw [is_R ht, hs]
      have e : r03_Reader.mk (tq (RS L full ts) l).1 (IntKind.i64.wrap ((tq (RS L full ts) l).2.1 + 1)) (tq (RS L full ts) l).2.2.1 (tq (RS L full ts) l).2.2.2.1 (tq (RS L full ts) l).2.2.2.2.1 = RS L full ts.tail := adv_R ht hs
      simp only [Option.bind_eq_bind, Option.bind_some, if_true, e]
      unfold procR
      simp only [Option.bind_eq_bind, Option.bind_some, Option.bind_assoc]
      congr 1; funext v6
      congr 1; funext v7
      refine Eq.trans ?_ (QF_use (body := r03_Parse_l6) (a := v7) (l := []) _)
      show (iter r03_Parse_l6 (tq v7 [])).bind _ = (iter r03_Parse_l6 (tq v7 [])).bind _
      congr 1; funext o
      cases o with
      | inl _ => rfl
      | inr j3 =>
        simp only [Sum.elim_inr]
        congr 1; funext v23
        congr 1; funext v24
        show (app 64 l [_]).bind _ = _
        rw [app_ok (by simp; omega)]; rfl
end
/-! ### Whole texts -/
noncomputable def rAll (a : r03_Reader) : Option (r03_Reader × r02_System) := QF r03_Parse_l1 a [] >>= fun c => QF r03_Parse_l2 c.1 [] >>= fun r => QF r03_Parse_l5 r.1 [] >>= fun p => some (p.1, ⟨c.2, r.2, p.2⟩)
noncomputable def rFin (v : r03_Reader × r02_System) : Option (r02_System × Int × Int) :=
  if (decide (v.1.I < (v.1.L.length : Int))) then (r03_Reader_fail v.1 5 >>= fun w => if (w.E != 0) then some ((r02_System.mk [] [] []), w.At, w.E) else some (v.2, 0, 0))
  else (if (v.1.E != 0) then some ((r02_System.mk [] [] []), v.1.At, v.1.E) else some (v.2, 0, 0))
theorem parseR_eq (s : ByteArray) : r03_Parse s = r01_Lex s >>= fun v1 => if (v1.2.2 != 0) then some ((r02_System.mk [] [] []), v1.2.1, v1.2.2) else rAll ⟨v1.1, 0, (s.size : Int), 0, 0⟩ >>= rFin := by
  unfold rAll
  simp only [Option.bind_eq_bind, Option.bind_assoc, Option.bind_some]
  simp only [← Option.bind_eq_bind, ← QF_use]
  rfl
section
variable {L : Int} {full ts : List Tok}
theorem all_TR (hl : Sf full ts) : TR L full Prod.fst mkVr 0 (fun _ => rAll (RS L full ts)) (sSys L ts) := by
  unfold sSys rAll
  refine TR.bind (π' := Prod.fst) (mk' := mkVr) (chans_TR hl) (fun c r1 h1 => ?_) (fun r c p hc he => ⟨(r.1, ⟨r.2, [], []⟩), he, fun n => .inl (by rw [QF_end (rulbr (er_ne hc he) [])]; show (QF r03_Parse_l5 r.1 [] >>= _) = _; rw [QF_end (probr (er_ne hc he) [])]; rfl)⟩)
  have l1 := hl.suf (many_suf mChan_m _ _ _ _ h1)
  refine TR.bind (π' := Prod.fst) (mk' := mkVr) (rules_TR l1) (fun d r2 h2 => ?_) (fun r cc p hc he => ⟨(r.1, ⟨c, r.2, []⟩), he, fun n => .inl (by rw [QF_end (probr (er_ne hc he) [])]; rfl)⟩)
  have l2 := l1.suf (many_suf mRule_m _ _ _ _ h2)
  exact TR.bind (π' := Prod.fst) (mk' := mkVr) (procs_TR l2) (fun d r2 h2 => TR.pure (fun n => rfl)) (fun r cc p hc he => ⟨(r.1, ⟨c, d, r.2⟩), he, fun n => .inl rfl⟩)
/-- What the statements' own reader parses. -/
theorem parse_R {s : ByteArray} {p : Int} (hs : r01_Lex s = some (ts.map tokR, p, 0)) (hl : ts.length ≤ 2000) : r03_Parse s = some (match sAll (s.size : Int) ts with
    | .ok v _ => (v, 0, 0)
    | .er c p => (⟨[], [], []⟩, p, c)
    | .out => (⟨[], [], []⟩, 0, 0)) := by
  rw [parseR_eq, hs]
  have hsf : Sf ts ts := ⟨List.suffix_refl _, hl⟩
  have e0 : (⟨ts.map tokR, 0, (s.size : Int), 0, 0⟩ : r03_Reader) = RS (s.size : Int) ts ts := by unfold RS; simp
  show (rAll ⟨ts.map tokR, 0, (s.size : Int), 0, 0⟩ >>= rFin) = _
  rw [e0]
  obtain ⟨r, g, q⟩ := all_TR (L := (s.size : Int)) hsf sys_ne
  have q : rAll (RS (s.size : Int) ts ts) = some r := by
    rcases q 0 with q | ⟨_, q⟩
    · exact q
    · omega
  rw [q]
  show rFin r = _
  unfold sAll
  cases hv : sSys (s.size : Int) ts with
  | ok v rest =>
    have hrest : Sf ts rest := hsf.suf (by
      unfold sSys at hv
      obtain ⟨_, r1, h1, hv⟩ := bind_ok hv
      obtain ⟨_, r2, h2, hv⟩ := bind_ok hv
      obtain ⟨_, r3, h3, hv⟩ := bind_ok hv
      injection hv with _ hv; subst hv
      exact (many_suf mProc_m _ _ _ _ h3).trans ((many_suf mRule_m _ _ _ _ h2).trans (many_suf mChan_m _ _ _ _ h1)))
    rw [hv] at g
    have g : r = (RS (s.size : Int) ts rest, v) := g
    subst g
    unfold rFin
    rw [isnil_R hrest]
    cases rest with
    | nil => rfl
    | cons t rest =>
      rw [if_pos (by simp), fail_R hrest]; rfl
  | er c p =>
    rw [hv] at g
    obtain ⟨hc, he⟩ := g
    have h : r.1.E ≠ 0 := er_ne hc he
    have h1 : (r.1.E != 0) = true := by simpa using h
    unfold rFin
    rw [faile h]
    simp only [Option.bind_eq_bind, Option.bind_some, h1, if_true, ite_self]
    rw [he.1, he.2]; rfl
  | out => exact absurd hv sys_ne
end
end Go.Proofs.YtokjbpmjdcbogaaGreatDoor.Abs.Par
/- What is parsed is no larger than its words. -/
namespace Go.Proofs.YtokjbpmjdcbogaaGreatDoor.Abs.Par
open Go Go.RowKit Wri
set_option linter.unusedVariables false
set_option linter.unusedSimpArgs false
structure SzX (L : Int) (f : Nat) : Prop where
  fac : ∀ d ts v r, sFactor L f d ts = .ok v r → szE (cE v) + r.length ≤ ts.length
  mul : ∀ d e ts v r, sMul L f d e ts = .ok v r → szE (cE v) + r.length ≤ szE (cE e) + ts.length
  term : ∀ d ts v r, sTerm L f d ts = .ok v r → szE (cE v) + r.length ≤ ts.length
  add : ∀ d e ts v r, sAdd L f d e ts = .ok v r → szE (cE v) + r.length ≤ szE (cE e) + ts.length
  exp : ∀ d ts v r, sExpr L f d ts = .ok v r → szE (cE v) + r.length ≤ ts.length
theorem szX (L : Int) : ∀ f, SzX L f := by
  intro f
  induction f with
  | zero => exact ⟨fun d ts v r h => by simp [sFactor] at h, fun d e ts v r h => by simp [sMul] at h, fun d ts v r h => by simp [sTerm] at h, fun d e ts v r h => by simp [sAdd] at h, fun d ts v r h => by simp [sExpr] at h⟩
  | succ f ih =>
    refine ⟨fun d ts v r h => ?_, fun d e ts v r h => ?_, fun d ts v r h => ?_, fun d e ts v r h => ?_, fun d ts v r h => ?_⟩
    · simp only [sFactor] at h
      split at h
      · rename_i hs
        have := sees_pos hs
        split at h
        · cases h
        · obtain ⟨w, s, h1, h2⟩ := bind_ok h
          injection h2 with h3 h2; subst h2; subst h3
          have := ih.fac _ _ _ _ h1
          simp only [cE, cEs, szE, szEs]; omega
      · split at h
        · rename_i hs
          have := sees_pos hs
          split at h
          · cases h
          · obtain ⟨w, s, h1, h2⟩ := bind_ok h
            obtain ⟨w', s', h3, h4⟩ := bind_ok h2
            injection h4 with h5 h4; subst h4; subst h5
            have := ih.exp _ _ _ _ h1
            have := (must_suf h3).2
            omega
        · split at h
          · obtain ⟨w, s, h1, h2⟩ := bind_ok h
            injection h2 with h3 h2; subst h2; subst h3
            have := (num_suf h1).2
            simp only [cE, cEs, szE, szEs]; omega
          · obtain ⟨w, s, h1, h2⟩ := bind_ok h
            injection h2 with h3 h2; subst h2; subst h3
            have := (name_suf h1).2
            simp only [cE, cEs, szE, szEs]; omega
    · simp only [sMul] at h
      split at h
      · injection h with h1 h; subst h; subst h1; omega
      · rename_i j hj
        have := (which_pos hj).1
        obtain ⟨w, s, h1, h2⟩ := bind_ok h
        have a1 := ih.fac _ _ _ _ h1
        have a2 := ih.mul _ _ _ _ _ h2
        simp only [cE, cEs, szE, szEs] at a2
        omega
    · simp only [sTerm] at h
      obtain ⟨w, s, h1, h2⟩ := bind_ok h
      have a1 := ih.fac _ _ _ _ h1
      have a2 := ih.mul _ _ _ _ _ h2
      omega
    · simp only [sAdd] at h
      split at h
      · injection h with h1 h; subst h; subst h1; omega
      · rename_i j hj
        have := (which_pos hj).1
        obtain ⟨w, s, h1, h2⟩ := bind_ok h
        have a1 := ih.term _ _ _ _ h1
        have a2 := ih.add _ _ _ _ _ h2
        simp only [cE, cEs, szE, szEs] at a2
        omega
    · simp only [sExpr] at h
      obtain ⟨w, s, h1, h2⟩ := bind_ok h
      have a1 := ih.term _ _ _ _ h1
      have a2 := ih.add _ _ _ _ _ h2
      omega
section
variable {L : Int} {ts r : List Tok}
theorem eX_sz {v : r02_Expr} (h : eX L ts = .ok v r) : szE (cE v) + r.length ≤ ts.length := (szX L _).exp _ _ _ _ h
theorem zE_sz : szE (cE zE) = 1 := by simp [zE, cE, cEs, szE, szEs]
theorem zC_sz : szC (cC zC) = 3 := by simp [zC, cC, szC, zE_sz]
theorem cond_sz {v : r02_Cond} (h : sCond L ts = .ok v r) : szC (cC v) + r.length ≤ ts.length := by
  unfold sCond at h
  obtain ⟨_, r1, h1, h⟩ := bind_ok h
  obtain ⟨l, r2, h2, h⟩ := bind_ok h
  split at h
  · cases h
  rename_i j hj
  have := (which_pos hj).1
  obtain ⟨x, r3, h3, h⟩ := bind_ok h
  obtain ⟨_, r4, h4, h⟩ := bind_ok h
  injection h with h0 h; subst h; subst h0
  have q1 := (must_suf h1).2
  have q2 := eX_sz h2
  have q3 := eX_sz h3
  have q4 := (must_suf h4).2
  simp only [cC, szC]; omega
theorem send_sz {v : r02_Stmt} (h : sSend L ts = .ok v r) : szS (cS v) + 10 * r.length ≤ 10 * ts.length := by
  unfold sSend at h
  obtain ⟨_, r1, h1, h⟩ := bind_ok h
  obtain ⟨_, r2, h2, h⟩ := bind_ok h
  obtain ⟨_, r3, h3, h⟩ := bind_ok h
  obtain ⟨_, r4, h4, h⟩ := bind_ok h
  obtain ⟨_, r5, h5, h⟩ := bind_ok h
  obtain ⟨_, r6, h6, h⟩ := bind_ok h
  obtain ⟨_, r7, h7, h⟩ := bind_ok h
  injection h with h0 h; subst h; subst h0
  have q1 := (name_suf h1).2
  have q2 := (must_suf h2).2
  have q3 := (name_suf h3).2
  have q4 := (must_suf h4).2
  have q5 := eX_sz h5
  have q6 := (must_suf h6).2
  have q7 := (must_suf h7).2
  simp only [cS, szS, cL, szL, cA, szA, zC_sz]; omega
theorem assert_sz {v : r02_Stmt} (h : sAssert L ts = .ok v r) : szS (cS v) + 10 * r.length ≤ 10 * ts.length := by
  unfold sAssert at h
  obtain ⟨_, r1, h1, h⟩ := bind_ok h
  obtain ⟨_, r2, h2, h⟩ := bind_ok h
  injection h with h0 h; subst h; subst h0
  have q1 := cond_sz h1
  have q3 := (cond_suf h1).2
  have q2 := (must_suf h2).2
  simp only [cS, szS, cL, szL, cA, szA, zE_sz]; omega
theorem input_sz {v : r02_Stmt} (h : sInput L ts = .ok v r) : szS (cS v) + 10 * r.length ≤ 10 * ts.length := by
  unfold sInput at h
  obtain ⟨_, r1, h1, h⟩ := bind_ok h
  obtain ⟨_, r2, h2, h⟩ := bind_ok h
  injection h with h0 h; subst h; subst h0
  have q1 := (name_suf h1).2
  have q2 := (must_suf h2).2
  simp only [cS, szS, cL, szL, cA, szA, zE_sz, zC_sz]; omega
theorem assign_sz {v : r02_Stmt} (h : sAssign L ts = .ok v r) : szS (cS v) + 10 * r.length ≤ 10 * ts.length := by
  unfold sAssign at h
  obtain ⟨_, r1, h1, h⟩ := bind_ok h
  obtain ⟨_, r2, h2, h⟩ := bind_ok h
  obtain ⟨_, r3, h3, h⟩ := bind_ok h
  obtain ⟨_, r4, h4, h⟩ := bind_ok h
  injection h with h0 h; subst h; subst h0
  have q1 := (name_suf h1).2
  have q2 := (must_suf h2).2
  have q3 := eX_sz h3
  have q4 := (must_suf h4).2
  simp only [cS, szS, cL, szL, cA, szA, zC_sz]; omega
end
structure SzS (L : Int) (f : Nat) : Prop where
  stmts : ∀ i ts v r, sStmts L f i ts = .ok v r → szL (cL v) + 10 * r.length ≤ 10 * ts.length + 1
  stmt : ∀ i ts v r, sStmt L f i ts = some (.ok v r) → szS (cS v) + 10 * r.length ≤ 10 * ts.length
  arm : ∀ i ts v r, sArm L f i ts = .ok v r → 2 + szL (cL v.Body) + 10 * r.length ≤ 10 * ts.length
  arms : ∀ i ts v r, sArms L f i ts = .ok v r → szA (cA v) + 10 * r.length ≤ 10 * ts.length + 1
  block : ∀ i ts v r, sBlock L f i ts = .ok v r → szL (cL v) + 10 * r.length + 9 ≤ 10 * ts.length
theorem szA_one (x : r02_Arm) (l : List r02_Arm) : szA (cA (x :: l)) = 2 + szL (cL x.Body) + szA (cA l) := by cases x; rfl
theorem szS_ (L : Int) : ∀ f, SzS L f := by
  intro f
  induction f with
  | zero => exact ⟨fun i ts v r h => by simp [sStmts] at h, fun i ts v r h => by simp [sStmt] at h, fun i ts v r h => by simp [sArm] at h, fun i ts v r h => by simp [sArms] at h, fun i ts v r h => by simp [sBlock] at h⟩
  | succ f ih =>
    refine ⟨fun i ts v r h => ?_, fun i ts v r h => ?_, fun i ts v r h => ?_, fun i ts v r h => ?_, fun i ts v r h => ?_⟩
    · simp only [sStmts] at h
      split at h
      · injection h with h1 h; subst h; subst h1; simp only [cL, szL]; omega
      · rename_i o ho
        obtain ⟨s, r1, h1, h0⟩ := bind_ok h
        obtain ⟨l, r2, h2, h3⟩ := bind_ok h0
        injection h3 with h4 h3; subst h3; subst h4; subst h1
        have a1 := ih.stmt _ _ _ _ ho
        have a2 := ih.stmts _ _ _ _ h2
        simp only [cL, szL]; omega
    · simp only [sStmt] at h
      split at h
      · rename_i hs
        have := sees_pos hs
        injection h with h
        obtain ⟨c, r1, h1, h⟩ := bind_ok h
        obtain ⟨b, r2, h2, h⟩ := bind_ok h
        have a1 := cond_sz h1
        have a2 := ih.block _ _ _ _ h2
        split at h
        · rename_i he
          have := sees_pos he
          obtain ⟨l, r3, h3, h⟩ := bind_ok h
          injection h with h0 h; subst h; subst h0
          have a3 := ih.block _ _ _ _ h3
          simp only [cS, szS, cL, szL, cA, szA, zE_sz]; omega
        · injection h with h0 h; subst h; subst h0
          simp only [cS, szS, cL, szL, cA, szA, zE_sz]; omega
      split at h
      · rename_i hs
        have := sees_pos hs
        injection h with h
        obtain ⟨c, r1, h1, h⟩ := bind_ok h
        obtain ⟨b, r2, h2, h⟩ := bind_ok h
        have a1 := cond_sz h1
        have a2 := ih.block _ _ _ _ h2
        injection h with h0 h; subst h; subst h0
        simp only [cS, szS, cL, szL, cA, szA, zE_sz]; omega
      split at h
      · rename_i hs
        have := sees_pos hs
        injection h with h
        have := send_sz h
        omega
      split at h
      · rename_i hs
        have := sees_pos hs
        injection h with h
        obtain ⟨n, r1, h1, h⟩ := bind_ok h
        obtain ⟨_, r2, h2, h⟩ := bind_ok h
        obtain ⟨a, r3, h3, h⟩ := bind_ok h
        obtain ⟨l, r4, h4, h⟩ := bind_ok h
        obtain ⟨_, r5, h5, h⟩ := bind_ok h
        injection h with h0 h; subst h; subst h0
        have q1 := (name_suf h1).2
        have q2 := (must_suf h2).2
        have q3 := ih.arm _ _ _ _ h3
        have q4 := ih.arms _ _ _ _ h4
        have q5 := (must_suf h5).2
        simp only [cS, szS, cL, szL, szA_one, zE_sz, zC_sz]; omega
      split at h
      · rename_i hs
        have := sees_pos hs
        injection h with h
        have := assert_sz h
        omega
      split at h
      · rename_i hs
        have := sees_pos hs
        injection h with h
        have := input_sz h
        omega
      split at h
      · injection h with h
        exact assign_sz h
      · cases h
    · simp only [sArm] at h
      obtain ⟨n, r1, h1, h⟩ := bind_ok h
      obtain ⟨_, r2, h2, h⟩ := bind_ok h
      obtain ⟨a, r3, h3, h⟩ := bind_ok h
      obtain ⟨_, r4, h4, h⟩ := bind_ok h
      obtain ⟨b, r5, h5, h⟩ := bind_ok h
      injection h with h0 h; subst h; subst h0
      have q1 := (name_suf h1).2
      have q2 := (must_suf h2).2
      have q3 := (name_suf h3).2
      have q4 := (must_suf h4).2
      have q5 := ih.block _ _ _ _ h5
      simp only [r02_Arm.Body]; omega
    · simp only [sArms] at h
      split at h
      · injection h with h1 h; subst h; subst h1; simp only [cA, szA]; omega
      · obtain ⟨s, r1, h1, h⟩ := bind_ok h
        obtain ⟨l, r2, h2, h⟩ := bind_ok h
        injection h with h0 h; subst h; subst h0
        have a1 := ih.arm _ _ _ _ h1
        have a2 := ih.arms _ _ _ _ h2
        rw [szA_one]; omega
    · simp only [sBlock] at h
      split at h
      · cases h
      · obtain ⟨_, r1, h1, h⟩ := bind_ok h
        obtain ⟨b, r2, h2, h⟩ := bind_ok h
        obtain ⟨_, r3, h3, h⟩ := bind_ok h
        injection h with h0 h; subst h; subst h0
        have q1 := (must_suf h1).2
        have q2 := ih.stmts _ _ _ _ h2
        have q3 := (must_suf h3).2
        omega
theorem many_sz {α β : Type} {more : List Tok → Option (Rs α)} {cv : α → β} {c : β → Nat} (h : ∀ ts v r, more ts = some (.ok v r) → c (cv v) + 10 * r.length ≤ 10 * ts.length) :
    ∀ f ts v r, sMany more f ts = .ok v r → sumN c (v.map cv) + 10 * r.length ≤ 10 * ts.length := by
  intro f
  induction f with
  | zero => intro ts v r h; cases h
  | succ f ih =>
    intro ts v r hh
    simp only [sMany] at hh
    split at hh
    · injection hh with h1 hh; subst hh; subst h1; simp [sumN]
    · rename_i o ho
      obtain ⟨s, r1, h1, h0⟩ := bind_ok hh
      obtain ⟨l, r2, h2, h3⟩ := bind_ok h0
      injection h3 with h4 h3; subst h3; subst h4; subst h1
      have a1 := h _ _ _ ho
      have a2 := ih _ _ _ h2
      simp only [List.map_cons, sumN]; omega
theorem many_len {α : Type} {more : List Tok → Option (Rs α)} (m : More more) : ∀ f ts v r, sMany more f ts = .ok v r → v.length + r.length ≤ ts.length := by
  intro f
  induction f with
  | zero => intro ts v r h; cases h
  | succ f ih =>
    intro ts v r hh
    simp only [sMany] at hh
    split at hh
    · injection hh with h1 hh; subst hh; subst h1; simp
    · rename_i o ho
      obtain ⟨s, r1, h1, h0⟩ := bind_ok hh
      obtain ⟨l, r2, h2, h3⟩ := bind_ok h0
      injection h3 with h4 h3; subst h3; subst h4; subst h1
      have a1 := (m.suf _ _ _ ho).2
      have a2 := ih _ _ _ h2
      simp only [List.length_cons]; omega
section
variable {L : Int} {ts r : List Tok}
theorem chan_sz {v : r02_Chan} (h : sChan L ts = .ok v r) : szCh (cCh v) + 10 * r.length ≤ 10 * ts.length := by
  unfold sChan at h
  obtain ⟨_, r1, h1, h⟩ := bind_ok h
  split at h
  · cases h
  rename_i j hj
  have := (which_pos hj).1
  obtain ⟨_, r2, h2, h⟩ := bind_ok h
  obtain ⟨_, r3, h3, h⟩ := bind_ok h
  obtain ⟨_, r4, h4, h⟩ := bind_ok h
  obtain ⟨_, r5, h5, h⟩ := bind_ok h
  obtain ⟨_, r6, h6, h⟩ := bind_ok h
  obtain ⟨_, r7, h7, h⟩ := bind_ok h
  obtain ⟨_, r8, h8, h⟩ := bind_ok h
  obtain ⟨_, r9, h9, h⟩ := bind_ok h
  obtain ⟨_, r10, h10, h⟩ := bind_ok h
  obtain ⟨_, r11, h11, h⟩ := bind_ok h
  injection h with h0 h; subst h; subst h0
  have q1 := (name_suf h1).2
  have q2 := (num_suf h2).2
  have q3 := (must_suf h3).2
  have q4 := (name_suf h4).2
  have q5 := (must_suf h5).2
  have q6 := (name_suf h6).2
  have q7 := (must_suf h7).2
  have q8 := (name_suf h8).2
  have q9 := many_len mTag_m _ _ _ _ h9
  have q10 := (must_suf h10).2
  have q11 := (must_suf h11).2
  simp only [cCh, szCh, List.length_cons]; omega
theorem rule_sz {v : r02_Rule} (h : sRule L ts = .ok v r) : szR (cRu v) + 10 * r.length ≤ 10 * ts.length := by
  unfold sRule at h
  obtain ⟨_, r1, h1, h⟩ := bind_ok h
  obtain ⟨_, r2, h2, h⟩ := bind_ok h
  obtain ⟨_, r3, h3, h⟩ := bind_ok h
  obtain ⟨_, r4, h4, h⟩ := bind_ok h
  injection h with h0 h; subst h; subst h0
  have q1 := (name_suf h1).2
  have q2 := (must_suf h2).2
  have q3 := many_len mMove_m _ _ _ _ h3
  have q4 := (must_suf h4).2
  simp only [cRu, szR, List.length_map]; omega
theorem proc_sz {v : r02_Proc} (h : sProc L ts = .ok v r) : szP (cPr v) + 10 * r.length ≤ 10 * ts.length := by
  unfold sProc at h
  obtain ⟨_, r1, h1, h⟩ := bind_ok h
  obtain ⟨_, r2, h2, h⟩ := bind_ok h
  obtain ⟨_, r3, h3, h⟩ := bind_ok h
  obtain ⟨_, r4, h4, h⟩ := bind_ok h
  obtain ⟨_, r5, h5, h⟩ := bind_ok h
  injection h with h0 h; subst h; subst h0
  have q1 := (name_suf h1).2
  have q2 := (must_suf h2).2
  have q3 := many_len mVar_m _ _ _ _ h3
  have q4 := (szS_ L _).stmts _ _ _ _ h4
  have q5 := (must_suf h5).2
  simp only [cPr, szP]; omega
theorem sys_sz {v : r02_System} (h : sSys L ts = .ok v r) : szSys (cSys v) ≤ 10 * ts.length := by
  unfold sSys at h
  obtain ⟨c, r1, h1, h⟩ := bind_ok h
  obtain ⟨d, r2, h2, h⟩ := bind_ok h
  obtain ⟨p, r3, h3, h⟩ := bind_ok h
  injection h with h0 h; subst h; subst h0
  have q1 := many_sz (cv := cCh) (c := szCh) (fun ts v r hm => by
    unfold mChan at hm; split at hm
    · rename_i hs; have := sees_pos hs; injection hm with hm; have := chan_sz hm; omega
    · cases hm) _ _ _ _ h1
  have q2 := many_sz (cv := cRu) (c := szR) (fun ts v r hm => by
    unfold mRule at hm; split at hm
    · rename_i hs; have := sees_pos hs; injection hm with hm; have := rule_sz hm; omega
    · cases hm) _ _ _ _ h2
  have q3 := many_sz (cv := cPr) (c := szP) (fun ts v r hm => by
    unfold mProc at hm; split at hm
    · rename_i hs; have := sees_pos hs; injection hm with hm; have := proc_sz hm; omega
    · cases hm) _ _ _ _ h3
  simp only [cSys, szSys]; omega
theorem all_sz {v : r02_System} (h : sAll L ts = .ok v r) : szSys (cSys v) ≤ 10 * ts.length := by
  unfold sAll at h
  obtain ⟨s, r1, h1, h⟩ := bind_ok h
  split at h
  · injection h with h0 h; subst h0; exact sys_sz h1
  · cases h
end
end Go.Proofs.YtokjbpmjdcbogaaGreatDoor.Abs.Par
/- The program and the statements' own reader parse every text alike; the law ParseReads. -/
namespace Go.Proofs.YtokjbpmjdcbogaaGreatDoor.Abs.Par
open Go Go.RowKit Wri
set_option linter.unusedVariables false
set_option linter.unusedSimpArgs false
def emp : r02_System := ⟨[], [], []⟩
def fin (L : Int) (z : List Tok × Int × Int) : r02_System × Int × Int := if z.2.2 != 0 then (emp, z.2.1, z.2.2) else match sAll L z.1 with
  | .ok v _ => (v, 0, 0)
  | .er c p => (emp, p, c)
  | .out => (emp, 0, 0)
/-- What a text says, or the error and its place. -/
def gAll (s : ByteArray) : r02_System × Int × Int := fin (s.size : Int) (told s.size (lexS s.data.toList 0))
theorem told_len (n : Nat) (z : List Tok × Option (Nat × Int)) : (told n z).1.length ≤ 2000 := by
  unfold told
  split
  · simp
  · split
    · simp
    · simp; omega
theorem parse_f {s : ByteArray} (hs : s.size ≤ 4194304) : parse_Parse s = some (cSys (gAll s).1, (gAll s).2.1, (gAll s).2.2) := by
  have hl := lex_f s hs
  have h2 := told_len s.size (lexS s.data.toList 0)
  unfold gAll fin
  unfold finT at hl
  generalize told s.size (lexS s.data.toList 0) = z at *
  obtain ⟨ts, p, e⟩ := z
  cases he : (e != 0) with
  | true =>
    rw [parse_eq, hl]
    simp only [Option.bind_eq_bind, Option.bind_some, he, if_true]
    rfl
  | false =>
    have he' : e = 0 := by simpa using he
    subst he'
    rw [parse_P hl h2]
    simp only [he, Bool.false_eq_true, if_false]
    cases sAll (s.size : Int) ts <;> rfl
theorem parse_r {s : ByteArray} (hs : s.size ≤ 4194304) : r03_Parse s = some (gAll s) := by
  have hl := lex_r s hs
  have h2 := told_len s.size (lexS s.data.toList 0)
  unfold gAll fin
  unfold finR at hl
  generalize told s.size (lexS s.data.toList 0) = z at *
  obtain ⟨ts, p, e⟩ := z
  cases he : (e != 0) with
  | true =>
    rw [parseR_eq, hl]
    simp only [Option.bind_eq_bind, Option.bind_some, he, if_true]
    rfl
  | false =>
    have he' : e = 0 := by simpa using he
    subst he'
    rw [parse_R hl h2]
    simp only [he, Bool.false_eq_true, if_false]
    cases sAll (s.size : Int) ts <;> rfl
theorem gAll_sz (s : ByteArray) : szSys (cSys (gAll s).1) ≤ 20000 := by
  have h2 := told_len s.size (lexS s.data.toList 0)
  unfold gAll fin
  generalize told s.size (lexS s.data.toList 0) = z at *
  obtain ⟨ts, p, e⟩ := z
  have h0 : szSys (cSys emp) ≤ 20000 := by simp [szSys, cSys, emp, sumN]
  simp only
  split
  · exact h0
  · cases hv : sAll (s.size : Int) ts with
    | ok v r => have := all_sz hv; simp only at h2 ⊢; omega
    | er c p => exact h0
    | out => exact h0
theorem gAll_cv (s : ByteArray) : l02_System (gAll s).1 = some (cSys (gAll s).1) := sys_cv (by have := gAll_sz s; omega)
theorem gAll_same (s : ByteArray) : ast_Same (cSys (gAll s).1) (cSys (gAll s).1) = some true := same_sys (by have := gAll_sz s; omega)
/-! ### Two texts -/
def lexF : Nat → Bs → Nat → List Tok × Option (Nat × Int)
  | 0, _, _ => ([], none)
  | n + 1, l, p => match l with
    | [] => ([], none)
    | b :: r =>
      if isB b then lexF n r (p + 1)
      else match word1 (b :: r) with
        | .error e => ([], some (p, e))
        | .ok w => let z := lexF n (r.drop (w.len - 1)) (p + w.len); (⟨w.kind, (b :: r).take w.len, w.num, p⟩ :: z.1, z.2)
theorem lexF_eq : ∀ n l p, l.length ≤ n → lexS l p = lexF n l p := by
  intro n
  induction n with
  | zero =>
    intro l p h
    have : l = [] := List.eq_nil_of_length_eq_zero (by omega)
    subst this; unfold lexS; rfl
  | succ n ih =>
    intro l p h
    cases l with
    | nil => unfold lexS; rfl
    | cons b r =>
      simp only [List.length_cons] at h
      unfold lexS
      simp only [lexF]
      split
      · exact ih _ _ (by omega)
      · cases word1 (b :: r) with
        | error e => rfl
        | ok w => simp only [ih (r.drop (w.len - 1)) (p + w.len) (by simp; omega)]
def gF (s : ByteArray) : r02_System × Int × Int := fin (s.size : Int) (told s.size (lexF s.size s.data.toList 0))
theorem gF_eq (s : ByteArray) : gAll s = gF s := by
  unfold gAll gF
  rw [lexF_eq s.size _ _ (Nat.le_of_eq (by cases s; simp [ByteArray.size]))]
abbrev T1 : ByteArray := ByteArray.mk #[112, 114, 111, 99, 32, 112, 32, 123, 32, 120, 32, 61, 32, 49, 32, 43, 32, 50, 32, 42, 32, 51, 32, 59, 32, 125]
abbrev T2 : ByteArray := ByteArray.mk #[112, 114, 111, 99, 32, 112]
def nE (n : Int) : r02_Expr := ⟨1, n, nB, []⟩
theorem t1_g : gF T1 = (⟨[], [], [⟨ByteArray.mk #[112], [], [.mk 1 (ByteArray.mk #[120]) nB ⟨4, 0, nB, [nE 1, ⟨6, 0, nB, [nE 2, nE 3]⟩]⟩ zC [] [] []]⟩]⟩, 0, 0) := by kernel_rfl
theorem t2_g : gF T2 = (emp, 6, 5) := by kernel_rfl
theorem parses_f : l03_parses = some true := by
  unfold l03_parses
  rw [parse_f (s := T1) (by decide), parse_f (s := T2) (by decide), gF_eq T1, gF_eq T2, t1_g, t2_g]
  rfl
/-! ### The law -/
theorem law_ParseReads (a0 : ByteArray) : l03_ParseReads a0 = some true := by
  unfold l03_ParseReads
  have e : ssub a0 0 (min (a0.size : Int) 600) = some (a0.extract 0 (min a0.size 600)) := by
    have := ssub_ok (s := a0) (a := 0) (b := min a0.size 600) (Nat.zero_le _) (Nat.min_le_left _ _)
    rw [← this]
    congr 1
    omega
  have hs : (a0.extract 0 (min a0.size 600)).size ≤ 4194304 := by simp [ByteArray.size_extract]; omega
  rw [e]
  simp only [Option.bind_eq_bind, Option.bind_some, parse_f hs, parse_r hs, parses_f, if_true, beq_self_eq_true, gAll_cv, gAll_same]
end Go.Proofs.YtokjbpmjdcbogaaGreatDoor.Abs.Par
