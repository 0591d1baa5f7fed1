/- Abstract states of the machine: ways that meet, and loops, whatever is behind them. -/
import Derived.Test.YtaaihamelknhdaaGreatDoorAbsM
namespace Go.Proofs.YtaaihamelknhdaaGreatDoor.Abs
open Go Go.RowKit
set_option linter.unusedVariables false
set_option linter.unusedSimpArgs false
section
variable {P : Program} {G : Nat → Option (List PV)} {Q : Exit → Sx → Prop}
/-- What is said of a normal end holds of a state that says more. -/
def WkN (G : Nat → Option (List PV)) (Q : Exit → Sx → Prop) : Prop := ∀ s s', Weak G s s' → Q .normal s' → Q .normal s
theorem wT {y : Code} : WkN G (Then P G y Q) := fun s s' h hq => CodeT.weak h hq
theorem wB {id : Nat} (h : WkN G Q) : WkN G (InBlock id Q) := fun s s' hw hq => h s s' hw hq
theorem wL {X ρ α : Type} {Qr : ρ → Exit → Sx → Prop} {σ : X → Sx} {id : Nat} {τ : α → Sx} {o : Sum X (Sum ρ α)} (hQ : OnlyRet Qr) : WkN G (BodyQ G Qr σ id τ o) := fun s s' hw hq => by
  match o, hq with
  | .inl x, hq => exact ⟨rfl, hw.trans hq.2⟩
  | .inr (.inl r), hq => have := hQ _ _ _ hq; cases this
  | .inr (.inr j), hq => cases hq.1
theorem wM {α : Type} {σ : α → Sx} {j : α} : WkN G (MeetN G σ j) := fun s s' hw hq => ⟨rfl, hw.trans hq.2⟩
theorem wR {ρ α : Type} {Qr : ρ → Exit → Sx → Prop} {σ : α → Sx} {o : Sum ρ α} (hQ : OnlyRet Qr) : WkN G (MeetR G Qr σ o) := fun s s' hw hq => by
  match o, hq with
  | .inl r, hq => have := hQ _ _ _ hq; cases this
  | .inr j, hq => exact ⟨rfl, hw.trans hq.2⟩
theorem jn_ {α ρ : Type} {x : Code} {s : Sx} {C : Option α} {F : α → Option ρ} {r : ρ} (σ : α → Sx) (h : (C >>= F) = some r) (hW : WkN G Q)
    (h1 : ∀ j, C = some j → CodeT P G x s (MeetN G σ j)) (h2 : ∀ j, F j = some r → Q .normal (σ j)) : CodeT P G x s Q := by
  obtain ⟨j, hj, hr⟩ := bindE h
  refine (h1 j hj).mono fun e s' hm => ?_
  obtain ⟨rfl, hw⟩ := hm
  exact hW _ _ hw (h2 j hr)
theorem jr_ {α ρ ρ' : Type} {x : Code} {s : Sx} {C : Option (Sum ρ α)} {F : Sum ρ α → Option ρ'} {Qr : ρ → Exit → Sx → Prop} {r : ρ'} (σ : α → Sx) (hQ : OnlyRet Qr) (h : (C >>= F) = some r) (hW : WkN G Q)
    (h1 : ∀ o, C = some o → CodeT P G x s (MeetR G Qr σ o)) (hr : ∀ r', F (.inl r') = some r → ∀ s', Qr r' .ret s' → Q .ret s') (h2 : ∀ j, F (.inr j) = some r → Q .normal (σ j)) : CodeT P G x s Q := by
  obtain ⟨o, ho, hr'⟩ := bindE h
  refine (h1 o ho).mono fun e s' hm => ?_
  cases o with
  | inl r' =>
    have := hQ _ _ _ hm
    subst this
    exact hr r' hr' s' hm
  | inr j =>
    obtain ⟨rfl, hw⟩ := hm
    exact hW _ _ hw (h2 j hr')
theorem lp_ {X ρ α ρ' : Type} {c : Code} {s : Sx} {id : Nat} {Qr : ρ → Exit → Sx → Prop} {F : Sum ρ α → Option ρ'} {r : ρ'} (body : X → Option (Sum X (Sum ρ α))) (σ : X → Sx) (τ : α → Sx) (x0 : X) (hQ : OnlyRet Qr)
    (h : (iter body x0 >>= F) = some r) (hW : WkN G Q) (h0 : Weak G s (σ x0)) (hb : ∀ x o, body x = some o → CodeT P G c (σ x) (BodyQ G Qr σ id τ o))
    (h1 : ∀ r', F (.inl r') = some r → ∀ s', Qr r' .ret s' → Q .ret s') (h2 : ∀ j, F (.inr j) = some r → Q .normal (τ j)) : CodeT P G (.block id (.loop c)) s Q := by
  obtain ⟨o, ho, hr⟩ := bindE h
  refine block_ (CodeT.weak h0 ((iter_loop hQ hb x0 o ho).mono fun e s' hq => ?_))
  cases o with
  | inl r' =>
    have := hQ _ _ _ hq
    subst this
    exact h1 r' hr s' hq
  | inr j =>
    obtain ⟨rfl, hw⟩ := hq
    show (if id = id then _ else _)
    rw [if_pos rfl]
    exact hW _ _ hw (h2 j hr)
theorem owT {P : Program} {G : Nat → Option (List PV)} {ops : Array Oper} {W : List (List Bool)} {n m : Nat} {env0 : List (Nat × List XV)} {st : Store} {T A T' : List Ent} {e : Ent} (hc : (forced W T e || isHeavy e) = true) (h' : Owed P G ops W n m env0 st T (A ++ [e]) T') : Owed P G ops W n m env0 st T A (e :: T') := ⟨by rw [if_pos hc]; trivial, h'⟩
theorem owF {P : Program} {G : Nat → Option (List PV)} {ops : Array Oper} {W : List (List Bool)} {n m : Nat} {env0 : List (Nat × List XV)} {st : Store} {T A T' : List Ent} {e : Ent} (hc : (forced W T e || isHeavy e) = false) (h : FloatOk P G ops W n m env0 st A e T') (h' : Owed P G ops W n m env0 st T (A ++ [e]) T') : Owed P G ops W n m env0 st T A (e :: T') := ⟨by rw [if_neg (by rw [hc]; simp)]; exact h, h'⟩
theorem beT {b w : Bool} (h : b = w) : (b == w) = true := by simp [h]
theorem beF {b w : Bool} (h : b = !w) : (b == w) = false := by cases w <;> simp [h]
theorem app_len {α : Type} {e : α → List PV} {B : Nat} {L M v : List α} (h : app B L M = some v) : ((L.map e).length + (M.map e).length) * B ≤ 140737488355328 := by
  rw [List.length_map, List.length_map]; exact (appE h).1
theorem app_set {α : Type} {e : α → List PV} {B b E sz : Nat} {L M v : List α} {st st' : Store} (h : app B L M = some v) (hs : st.set b (some (.row true true E sz (v.map e))) = st') : st.set b (some (.row true true E sz (L.map e ++ M.map e))) = st' := by
  rw [← List.map_append, ← (appE h).2]; exact hs
theorem set_row {α : Type} {e : α → List PV} {b E sz off : Nat} {i : Int} {ch : Bool} {L : List α} {z z' : α} {ps : List PV} {st st' : Store} (h : idx L i = some z) (hz : putP (e z) off ps = e z') (hs : SetAt st b (some (.row true ch E sz ((seti L i z').map e))) st') :
    st.set b (some (.row true ch E sz ((L.map e).set i.toNat (putP (e z) off ps)))) = st' := by
  rw [← hs.eq, hz]; unfold seti; rw [List.map_set]
theorem putE {cs cs' ys : List BV} {off : Nat} (sz : Nat) (h : PutL cs off ys cs') (hl : ys.length = sz) (hz : sz ≠ 0) : putAt cs off ys = cs' := (h.put hl hz).1
theorem elimR {ρ α β : Type} {f : ρ → Option β} {g : α → Option β} {j : α} {r : β} (h : Sum.elim f g (.inr j) = some r) : g j = some r := h
theorem elimL {ρ α β : Type} {f : ρ → Option β} {g : α → Option β} {j : ρ} {r : β} (h : Sum.elim f g (.inl j) = some r) : f j = some r := h
/-- A row's head may have changed. -/
theorem w_ch {n m : Nat} {env : List (Nat × List XV)} {st st' : Store} {s : Sx} {E sz : Nat} {xs : List (List PV)} (b : Nat) (hb : st[b]? = some (some (.row true false E sz xs))) (h : SetAt st b (some (.row true true E sz xs)) st') (hw : Weak G ⟨n, m, env, st'⟩ s) : Weak G ⟨n, m, env, st⟩ s := by
  have h1 : Weak G ⟨n, m, env, st⟩ ⟨n, m, env, st'⟩ := by
    intro E0 η J a w hr
    have hO := hr.ok.obj b _ hb
    have r2 := hr.turn (b := b) (o := .row true false E sz xs) (f := id) (η' := η) (J' := J) (w' := w) (new := some (.row true true E sz xs))
      ⟨hb, rfl, fun _ h => h, fun _ _ => rfl, fun _ h => h, rfl, rfl, rfl, Nat.le_refl _, fun _ _ _ => rfl, fun _ _ h => h, fun o' ho' => (by
        injection ho' with ho'
        subst ho'
        exact ⟨hO, rfl, fun hs => (by cases hs)⟩), fun o' j ho' hj => ⟨.inr hj, fun hJ => hr.ok.jd b _ j hb hj hJ⟩, fun j hj => .inl hj⟩
    rw [mapEnv_id, mapSt_id, h.eq] at r2
    exact ⟨η, J, r2⟩
  exact h1.trans hw
end
end Go.Proofs.YtaaihamelknhdaaGreatDoor.Abs
