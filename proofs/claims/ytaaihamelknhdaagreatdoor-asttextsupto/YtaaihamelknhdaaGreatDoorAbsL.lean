/- Abstract states of the machine: the rules of a printed walk, the state written out. -/
import Derived.Test.YtaaihamelknhdaaGreatDoorAbsK
namespace Go.Proofs.YtaaihamelknhdaaGreatDoor.Abs
open Go Go.RowKit
set_option linter.unusedVariables false
set_option linter.unusedSimpArgs false
/-- A list with one place set, structurally. -/
inductive SetAt {α : Type} : List α → Nat → α → List α → Prop where
  | z {x y : α} {l : List α} : SetAt (x :: l) 0 y (y :: l)
  | s {x y : α} {l l' : List α} {n : Nat} (h : SetAt l n y l') : SetAt (x :: l) (n + 1) y (x :: l')
inductive Push {α : Type} : List α → α → List α → Prop where
  | z {y : α} : Push [] y [y]
  | s {x y : α} {l l' : List α} (h : Push l y l') : Push (x :: l) y (x :: l')
theorem SetAt.eq {α : Type} {l l' : List α} {n : Nat} {y : α} (h : SetAt l n y l') : l.set n y = l' := by
  induction h with
  | z => rfl
  | s _ ih => rw [List.set_cons_succ, ih]
theorem SetAt.lt {α : Type} {l l' : List α} {n : Nat} {y : α} (h : SetAt l n y l') : n < l.length := by
  induction h with
  | z => simp
  | s _ ih => simp; exact ih
theorem Push.eq {α : Type} {l l' : List α} {y : α} (h : Push l y l') : l ++ [y] = l' := by
  induction h with
  | z => rfl
  | s _ ih => rw [List.cons_append, ih]
inductive PutL : List BV → Nat → List BV → List BV → Prop where
  | nil {cs : List BV} {off : Nat} : PutL cs off [] cs
  | cons {cs cs1 cs' ys : List BV} {off : Nat} {y : BV} (h : SetAt cs off y cs1) (r : PutL cs1 (off + 1) ys cs') : PutL cs off (y :: ys) cs'
  | all {cs ys : List BV} (h : ys.length = cs.length) : PutL cs 0 ys ys
theorem putAt_all : ∀ {ys cs pre : List BV}, ys.length = cs.length → putAt (pre ++ cs) pre.length ys = pre ++ ys
  | [], cs, pre, h => by
    have : cs = [] := List.eq_nil_of_length_eq_zero (by simpa using h.symm)
    subst this; simp [putAt]
  | y :: ys, [], pre, h => by simp at h
  | y :: ys, c :: cs, pre, h => by
    have ih := putAt_all (ys := ys) (cs := cs) (pre := pre ++ [y]) (by simpa using h)
    simp only [putAt]
    rw [List.set_append_right _ _ (Nat.le_refl _), Nat.sub_self, List.set_cons_zero]
    simpa using ih
theorem PutL.eq {cs cs' ys : List BV} {off : Nat} (h : PutL cs off ys cs') : putAt cs off ys = cs' ∧ off + ys.length ≤ cs.length ∨ ys = [] ∧ cs' = cs := by
  induction h with
  | nil => exact .inr ⟨rfl, rfl⟩
  | @cons cs cs1 cs' ys off y h r ih =>
    left
    have hl : cs1.length = cs.length := by rw [← h.eq]; simp
    have := h.lt
    rcases ih with ⟨h1, h2⟩ | ⟨rfl, rfl⟩
    · refine ⟨?_, by simp; omega⟩
      rw [putAt, h.eq, h1]
    · refine ⟨?_, by simp; omega⟩
      rw [putAt, h.eq, putAt]
  | @all cs ys h =>
    left
    exact ⟨by simpa using putAt_all (pre := []) h, by omega⟩
theorem PutL.put {cs cs' ys : List BV} {off sz : Nat} (h : PutL cs off ys cs') (hl : ys.length = sz) (hz : sz ≠ 0) : putAt cs off ys = cs' ∧ off + ys.length ≤ cs.length := by
  rcases h.eq with h | ⟨rfl, _⟩
  · exact h
  · simp at hl; omega
section
variable {P : Program} {G : Nat → Option (List PV)} {ops : Array Oper} {o : Oper} {l : List Oper} {n m t : Nat} {env env' : List (Nat × List XV)} {st st' : Store} {K : Sx → Prop} {Q : Exit → Sx → Prop}

theorem iteT {α : Type} {b : Bool} {inst : Decidable (b = true)} {x y : Option α} {r : α} (h : @ite _ (b = true) inst x y = some r) (hb : b = true) : x = some r := by rwa [if_pos hb] at h
theorem iteF {α : Type} {b : Bool} {inst : Decidable (b = true)} {x y : Option α} {r : α} (h : @ite _ (b = true) inst x y = some r) (hb : b = false) : y = some r := by
  subst hb; rwa [if_neg (by simp)] at h
theorem ckE {α : Type} {b : Bool} {inst : Decidable (b = true)} {x : Option α} {r : α} (h : @ite _ (b = true) inst x none = some r) : b = true ∧ x = some r := by
  cases b with
  | true => exact ⟨rfl, by rwa [if_pos rfl] at h⟩
  | false => rw [if_neg (by simp)] at h; cases h
theorem retE {α : Type} {x y : α} (h : some x = some y) : x = y := Option.some.inj h
/-- Round after round, till there is an end. -/
def iterN {X O : Type} (body : X → Option (Sum X O)) : Nat → X → Option O
  | 0, _ => none
  | n + 1, x => body x >>= fun o => match o with
    | .inl x' => iterN body n x'
    | .inr r => some r
theorem iterN_mono {X O : Type} {body : X → Option (Sum X O)} {r : O} : ∀ {n m : Nat} {x : X}, iterN body n x = some r → n ≤ m → iterN body m x = some r
  | 0, _, _, h, _ => by cases h
  | n + 1, 0, _, _, hm => by omega
  | n + 1, m + 1, x, h, hm => by
    unfold iterN at h ⊢
    cases hb : body x with
    | none => rw [hb] at h; cases h
    | some o =>
      rw [hb] at h
      cases o with
      | inl x' => exact iterN_mono (n := n) (m := m) h (by omega)
      | inr r' => exact h
open Classical in
/-- What some depth answers. -/
noncomputable def unf {O : Type} (f : Nat → Option O) : Option O := if h : ∃ r, ∃ n, f n = some r then some (Classical.choose h) else none
theorem unfE {O : Type} {f : Nat → Option O} {r : O} (h : unf f = some r) : ∃ n, f n = some r := by
  unfold unf at h
  split at h
  · rename_i hx
    injection h with h
    subst h
    exact Classical.choose_spec hx
  · cases h
theorem unf_of {O : Type} {f : Nat → Option O} {r : O} (n : Nat) (hn : f n = some r) (hu : ∀ m s, f m = some s → s = r) : unf f = some r := by
  have hx : ∃ r, ∃ n, f n = some r := ⟨r, n, hn⟩
  unfold unf
  rw [dif_pos hx]
  obtain ⟨m, hm⟩ := Classical.choose_spec hx
  exact congrArg some (hu m _ hm)
noncomputable def iter {X O : Type} (body : X → Option (Sum X O)) (x : X) : Option O := unf fun n => iterN body n x
theorem iterN_det {X O : Type} {body : X → Option (Sum X O)} {x : X} {n m : Nat} {r s : O} (h : iterN body n x = some r) (h' : iterN body m x = some s) : s = r := by
  have h1 := iterN_mono h (Nat.le_max_left n m)
  have h2 := iterN_mono h' (Nat.le_max_right n m)
  rw [h1] at h2; injection h2 with h2; exact h2.symm
theorem iter_iff {X O : Type} {body : X → Option (Sum X O)} {x : X} {r : O} : iter body x = some r ↔ ∃ n, iterN body n x = some r :=
  ⟨unfE, fun ⟨n, hn⟩ => unf_of n hn fun _ _ hm => iterN_det hn hm⟩
theorem iter_eq {X O : Type} (body : X → Option (Sum X O)) (x : X) : iter body x = (body x >>= fun o => match o with
    | .inl x' => iter body x'
    | .inr r => some r) := by
  cases hb : body x with
  | none =>
    cases hi : iter body x with
    | none => rfl
    | some r =>
      obtain ⟨n, hn⟩ := iter_iff.1 hi
      cases n with
      | zero => cases hn
      | succ n => unfold iterN at hn; rw [hb] at hn; cases hn
  | some o =>
    cases o with
    | inr r => exact iter_iff.2 ⟨1, by unfold iterN; rw [hb]; rfl⟩
    | inl x' =>
      show iter body x = iter body x'
      cases hi : iter body x' with
      | some r =>
        obtain ⟨n, hn⟩ := iter_iff.1 hi
        exact iter_iff.2 ⟨n + 1, by unfold iterN; rw [hb]; exact hn⟩
      | none =>
        cases hj : iter body x with
        | none => rfl
        | some r =>
          obtain ⟨n, hn⟩ := iter_iff.1 hj
          cases n with
          | zero => cases hn
          | succ n =>
            unfold iterN at hn; rw [hb] at hn
            have := iter_iff.2 ⟨n, hn⟩
            rw [hi] at this; cases this
theorem iter_ind {X O : Type} {body : X → Option (Sum X O)} (p : X → O → Prop) (h : ∀ x o, body x = some o → ∀ r, (match o with | .inl x' => iter body x' = some r ∧ p x' r | .inr r' => r' = r) → p x r) : ∀ x r, iter body x = some r → p x r := by
  have key : ∀ n x r, iterN body n x = some r → p x r := by
    intro n
    induction n with
    | zero => intro x r hr; cases hr
    | succ n ih =>
      intro x r hr
      unfold iterN at hr
      obtain ⟨o, ho, hr⟩ := bindE hr
      cases o with
      | inl x' => exact h x _ ho r ⟨iter_iff.2 ⟨n, hr⟩, ih x' r hr⟩
      | inr r' => exact h x _ ho r (by injection hr)
  intro x r hr
  obtain ⟨n, hn⟩ := iter_iff.1 hr
  exact key n x r hn
def BodyQ (G : Nat → Option (List PV)) {X ρ α : Type} (Qr : ρ → Exit → Sx → Prop) (σ : X → Sx) (id : Nat) (τ : α → Sx) : Sum X (Sum ρ α) → Exit → Sx → Prop
  | .inl x, e, s => e = .normal ∧ Weak G s (σ x)
  | .inr (.inl r), e, s => Qr r e s
  | .inr (.inr j), e, s => e = .exit id ∧ Weak G s (τ j)
def EndQ (G : Nat → Option (List PV)) {ρ α : Type} (Qr : ρ → Exit → Sx → Prop) (id : Nat) (τ : α → Sx) : Sum ρ α → Exit → Sx → Prop
  | .inl r, e, s => Qr r e s
  | .inr j, e, s => e = .exit id ∧ Weak G s (τ j)
/-- Ends by returning alone. -/
def OnlyRet {ρ : Type} (Qr : ρ → Exit → Sx → Prop) : Prop := ∀ r e s, Qr r e s → e = .ret
theorem iter_loop {X ρ α : Type} {c : Code} {Qr : ρ → Exit → Sx → Prop} {id : Nat} {σ : X → Sx} {τ : α → Sx} {body : X → Option (Sum X (Sum ρ α))} (hQ : OnlyRet Qr)
    (hb : ∀ x o, body x = some o → CodeT P G c (σ x) (BodyQ G Qr σ id τ o)) : ∀ x o, iter body x = some o → CodeT P G (.loop c) (σ x) (EndQ G Qr id τ o) := by
  refine iter_ind (fun x o => CodeT P G (.loop c) (σ x) (EndQ G Qr id τ o)) (fun x o' h1 o h2 => ?_)
  have tame : Tame (EndQ G Qr id τ o) := by
    cases o with
    | inl r => exact ⟨fun l s h => (by have := hQ _ _ _ h; cases this), fun s h => (by have := hQ _ _ _ h; cases this)⟩
    | inr j => exact ⟨fun l s h => (by have := h.1; cases this), fun s h => (by have := h.1; cases this)⟩
  refine loopU tame ((hb x o' h1).mono fun e s' hq => ?_)
  cases o' with
  | inl x' =>
    obtain ⟨rfl, hw⟩ := hq
    exact CodeT.weak hw h2.2
  | inr o' =>
    have : o' = o := h2
    subst this
    cases o' with
    | inl r =>
      have := hQ _ _ _ hq
      subst this
      exact hq
    | inr j =>
      obtain ⟨rfl, hw⟩ := hq
      exact ⟨rfl, hw⟩
/-- A loop in its block, and what is behind it. -/
theorem loop_seq {X ρ α ρ' : Type} {c y : Code} {s : Sx} {id : Nat} {Qr : ρ → Exit → Sx → Prop} {F : Sum ρ α → Option ρ'} {Q : Exit → Sx → Prop} {r : ρ'} (body : X → Option (Sum X (Sum ρ α))) (σ : X → Sx) (τ : α → Sx) (x0 : X) (hQ : OnlyRet Qr)
    (h : (iter body x0 >>= F) = some r) (h0 : Weak G s (σ x0)) (hb : ∀ x o, body x = some o → CodeT P G c (σ x) (BodyQ G Qr σ id τ o))
    (h1 : ∀ r', F (.inl r') = some r → ∀ s', Qr r' .ret s' → Q .ret s') (h2 : ∀ j, F (.inr j) = some r → CodeT P G y (τ j) Q) : CodeT P G (.seq (.block id (.loop c)) y) s Q := by
  obtain ⟨o, ho, hr⟩ := bindE h
  refine seq_ (block_ (CodeT.weak h0 ((iter_loop hQ hb x0 o ho).mono fun e s' hq => ?_)))
  cases o with
  | inl r' =>
    have := hQ _ _ _ hq
    subst this
    exact h1 r' hr s' hq
  | inr j =>
    obtain ⟨rfl, hw⟩ := hq
    show (if id = id then _ else _)
    rw [if_pos rfl]
    exact CodeT.weak hw (h2 j hr)
/-- Ways that meet, and none that returns. -/
def MeetN (G : Nat → Option (List PV)) {α : Type} (σ : α → Sx) (j : α) (e : Exit) (s : Sx) : Prop := e = .normal ∧ Weak G s (σ j)
theorem joinN {α ρ : Type} {x y : Code} {s : Sx} {C : Option α} {F : α → Option ρ} {Q : Exit → Sx → Prop} {r : ρ} (σ : α → Sx) (h : (C >>= F) = some r)
    (h1 : ∀ j, C = some j → CodeT P G x s (MeetN G σ j)) (h2 : ∀ j, F j = some r → CodeT P G y (σ j) Q) : CodeT P G (.seq x y) s Q := by
  obtain ⟨j, hj, hr⟩ := bindE h
  refine seq_ ((h1 j hj).mono fun e s' hm => ?_)
  obtain ⟨rfl, hw⟩ := hm
  exact CodeT.weak hw (h2 j hr)
/-- Ways that meet, or return. -/
def MeetR (G : Nat → Option (List PV)) {ρ α : Type} (Qr : ρ → Exit → Sx → Prop) (σ : α → Sx) : Sum ρ α → Exit → Sx → Prop
  | .inl r, e, s => Qr r e s
  | .inr j, e, s => e = .normal ∧ Weak G s (σ j)
theorem joinR {α ρ ρ' : Type} {x y : Code} {s : Sx} {C : Option (Sum ρ α)} {F : Sum ρ α → Option ρ'} {Qr : ρ → Exit → Sx → Prop} {Q : Exit → Sx → Prop} {r : ρ'} (σ : α → Sx) (hQ : OnlyRet Qr) (h : (C >>= F) = some r)
    (h1 : ∀ o, C = some o → CodeT P G x s (MeetR G Qr σ o)) (hr : ∀ r', F (.inl r') = some r → ∀ s', Qr r' .ret s' → Q .ret s') (h2 : ∀ j, F (.inr j) = some r → CodeT P G y (σ j) Q) : CodeT P G (.seq x y) s Q := by
  obtain ⟨o, ho, hr'⟩ := bindE h
  refine seq_ ((h1 o ho).mono fun e s' hm => ?_)
  cases o with
  | inl r' =>
    have := hQ _ _ _ hm
    subst this
    exact hr r' hr' s' hm
  | inr j =>
    obtain ⟨rfl, hw⟩ := hm
    exact CodeT.weak hw (h2 j hr')
/-! ### Ends -/
theorem tR {y : Code} {s : Sx} (h : Q .ret s) : Then P G y Q .ret s := h
theorem tX {y : Code} {s : Sx} {i : Nat} (h : Q (.exit i) s) : Then P G y Q (.exit i) s := h
theorem bR {s : Sx} {i : Nat} (h : Q .ret s) : InBlock i Q .ret s := h
theorem bN {s : Sx} {i : Nat} (h : Q .normal s) : InBlock i Q .normal s := h
theorem bH {s : Sx} {i : Nat} (h : Q .normal s) : InBlock i Q (.exit i) s := by show (if i = i then _ else _); rwa [if_pos rfl]
theorem bM {s : Sx} {i j : Nat} (hn : decide (j = i) = false) (h : Q (.exit j) s) : InBlock i Q (.exit j) s := by
  show (if j = i then _ else _)
  rw [if_neg (by simpa using hn)]; exact h
theorem lR {X ρ α : Type} {Qr : ρ → Exit → Sx → Prop} {σ : X → Sx} {id : Nat} {τ : α → Sx} {r : ρ} {s : Sx} (h : Qr r .ret s) : BodyQ G Qr σ id τ (.inr (.inl r)) .ret s := h
theorem lN {X ρ α : Type} {Qr : ρ → Exit → Sx → Prop} {σ : X → Sx} {id : Nat} {τ : α → Sx} {x : X} {s : Sx} (h : Weak G s (σ x)) : BodyQ G Qr σ id τ (.inl x) .normal s := ⟨rfl, h⟩
theorem lX {X ρ α : Type} {Qr : ρ → Exit → Sx → Prop} {σ : X → Sx} {id : Nat} {τ : α → Sx} {j : α} {s : Sx} (h : Weak G s (τ j)) : BodyQ G Qr σ id τ (.inr (.inr j)) (.exit id) s := ⟨rfl, h⟩
theorem mN {α : Type} {σ : α → Sx} {j : α} {s : Sx} (h : Weak G s (σ j)) : MeetN G σ j .normal s := ⟨rfl, h⟩
theorem mRN {ρ α : Type} {Qr : ρ → Exit → Sx → Prop} {σ : α → Sx} {j : α} {s : Sx} (h : Weak G s (σ j)) : MeetR G Qr σ (.inr j) .normal s := ⟨rfl, h⟩
theorem mRR {ρ α : Type} {Qr : ρ → Exit → Sx → Prop} {σ : α → Sx} {r : ρ} {s : Sx} (h : Qr r .ret s) : MeetR G Qr σ (.inl r) .ret s := h
/-- What a function comes to that changes nothing; it returns. -/
def RV {ρ : Type} (P : Program) (fn : Func) (res : ρ → List XV) (r : ρ) : Exit → Sx → Prop
  | .ret, s => RetQ P fn (fun x _ => x = res r ∧ x.all XV.pure = true) .ret s
  | _, _ => False
theorem RV.only {ρ : Type} {fn : Func} {res : ρ → List XV} : OnlyRet (RV P fn res) := fun r e s h => by cases e <;> first | rfl | exact False.elim h
theorem rv {ρ : Type} {fn : Func} {res : ρ → List XV} {r : ρ} {s : Sx} {x : List XV} (h : ResR P s fn.results.toList x) (h1 : x = res r) (h2 : x.all XV.pure = true) : RV P fn res r .ret s := ⟨x, h, h1, h2⟩
/-- .. or ends. -/
def RVN {ρ : Type} (P : Program) (fn : Func) (res : ρ → List XV) (r : ρ) : Exit → Sx → Prop := RetQ P fn (fun x _ => x = res r ∧ x.all XV.pure = true)
theorem rvn {ρ : Type} {fn : Func} {res : ρ → List XV} {r : ρ} {s : Sx} {x : List XV} (h : ResR P s fn.results.toList x) (h1 : x = res r) (h2 : x.all XV.pure = true) : RVN P fn res r .normal s := ⟨x, h, h1, h2⟩
theorem rvr {ρ : Type} {fn : Func} {res : ρ → List XV} {r : ρ} {s : Sx} (h : RV P fn res r .ret s) : RVN P fn res r .ret s := h
theorem meetsV_of {ρ : Type} {f : FuncId} {fn : Func} {c : Code} {args : List XV} {N : Nat} (res : ρ → List XV) (r : ρ) (hf : P.funcs[f]? = some fn) (hb : fn.body = some c) (hN : fn.ntmps = N) (ha : decide (args.length ≤ N) = true) (he : argEnv args 0 = env)
    (h : CodeT P G c ⟨N, 0, env, []⟩ (RVN P fn res r)) : MeetsV P G f args (res r) := meetsP_of (R := fun x => x = res r) hf hb hN ha he h |>.mono fun x st' ⟨h1, h2, h3⟩ => ⟨h1, h2, h3⟩
/-! ### Operations -/
theorem B {x : List XV} {b : Nat} {ob : Obj'} (hg : o.guard = none) (hd : o.dst = some t) (h : BirT P G o ⟨n, m, env, st⟩ b ob x) (ht : decide (t < n) = true) (hb : st.length = b) (hs : Push st (some ob) st') (hk : OpsT P G ops l ⟨n, m, (t, x) :: env, st'⟩ K) : OpsT P G ops (o :: l) ⟨n, m, env, st⟩ K :=
  ops_cons hg (op_bir hd ht h hb hs.eq hk)
theorem C {x : List XV} (hg : o.guard = none) (hd : o.dst = some t) (h : FlT P G o ⟨n, m, env, st⟩ x) (ht : decide (t < n) = true) (hk : OpsT P G ops l ⟨n, m, (t, x) :: env, st⟩ K) : OpsT P G ops (o :: l) ⟨n, m, env, st⟩ K :=
  ops_cons hg (op_fl hd ht h hk)
theorem S {T T0 : TypeId} {x y : Operand} {b off sz : Nat} {agg : Bool} {v : XV} {cs ys cs' : List BV} (hg : o.guard = none) (hd : o.dst = none) (ho : o.op = .store T x y) (hT : Ty P T agg sz) (hz : sz ≠ 0)
    (hx : val G env x = some (.c (.box b off))) (hb : st[b]? = some (some (.box true T0 cs))) (hy : val G env y = some v) (hc : v.cells = some ys) (hl : ys.length = sz)
    (he : PutL cs off ys cs') (hs : SetAt st b (some (.box true T0 cs')) st') (hk : OpsT P G ops l ⟨n, m, env, st'⟩ K) : OpsT P G ops (o :: l) ⟨n, m, env, st⟩ K := by
  obtain ⟨h1, h2⟩ := he.put hl hz
  exact ops_cons hg (op_store (s := ⟨n, m, env, st⟩) hd ho hT hx hb hy hc hl h2 h1 (by rw [hs.eq]; exact hk))
theorem SR {T E : TypeId} {x y : Operand} {b i off sz sz' : Nat} {agg ch : Bool} {xs : List (List PV)} {e ps : List PV} {v : XV} {ys : List BV} (hg : o.guard = none) (hd : o.dst = none) (ho : o.op = .store T x y) (hT : Ty P T agg sz')
    (hx : val G env x = some (.c (.rp b sz i off))) (hb : st[b]? = some (some (.row true ch E sz xs))) (he : xs[i]? = some e) (hy : val G env y = some v) (hc : v.cells = some ys) (hp : toPVs ys = some ps) (hl : ps.length = sz') (hfit : decide (off + ps.length ≤ sz) = true)
    (xs' : List (List PV)) (hxs : xs.set i (putP e off ps) = xs') (hs : SetAt st b (some (.row true ch E sz xs')) st') (hk : OpsT P G ops l ⟨n, m, env, st'⟩ K) : OpsT P G ops (o :: l) ⟨n, m, env, st⟩ K := by
  subst hxs
  exact ops_cons hg (op_storeR (s := ⟨n, m, env, st⟩) hd ho hT hx hb he hy hc hp hl (by simpa using hfit) (by rw [hs.eq]; exact hk))
theorem Ap {T E : TypeId} {x y : Operand} {b sz bytes : Nat} {ch : Bool} {yv : XV} {xs ys : List (List PV)} (hg : o.guard = none) (hd : o.dst = some t) (ht : decide (t < n) = true)
    (ho : o.op = .call { callee := .builtin .append, args := #[x, y], argTypes := #[T, T] }) (hu : P.underlying T = some (.slice E)) (hE : TyE P E sz bytes) (hb0 : 0 < bytes)
    (hx : val G env x = some (.c (.row b))) (hb : st[b]? = some (some (.row true ch E sz xs))) (hy : val G env y = some yv) (hs : Src ⟨n, m, [], st⟩ yv ys) (hsz : ∀ e ∈ ys, e.length = sz) (hbytes : (xs.length + ys.length) * bytes ≤ 140737488355328)
    (xs' : List (List PV)) (hxs : xs ++ ys = xs') (he : mapEnv (prg b) env = env') (hs : (mapSt (prg b) st).set b (some (.row true true E sz xs')) = st')
    (hk : OpsT P G ops l ⟨n, m, (t, [.c (.row b)]) :: env', st'⟩ K) : OpsT P G ops (o :: l) ⟨n, m, env, st⟩ K := by
  subst he; subst hs; subst hxs
  exact ops_cons hg (op_append (s := ⟨n, m, env, st⟩) hd ht ho hu hE hb0 hx hb hy (src_mono (by assumption)) hsz hbytes hk)
theorem sub_nil : SubEnv env [] := trivial
theorem sub_cons {x : List XV} (h : lk env t = some x) (r : SubEnv env env') : SubEnv env ((t, x) :: env') := ⟨h, r⟩
theorem w_freeze {s : Sx} {b E sz : Nat} {ch : Bool} {xs : List (List PV)} (hb : st[b]? = some (some (.row true ch E sz xs))) (he : mapEnv (frz b xs) env = env') (hs : (mapSt (frz b xs) st).set b none = st') (h : Weak G ⟨n, m, env', st'⟩ s) : Weak G ⟨n, m, env, st⟩ s := by
  subst he; subst hs
  exact (weak_freeze (s := ⟨n, m, env, st⟩) hb).trans h
theorem w_nil {s : Sx} (he : mapEnv nilE env = env') (hs : mapSt nilE st = st') (h : Weak G ⟨n, m, env', st'⟩ s) : Weak G ⟨n, m, env, st⟩ s := by
  subst he; subst hs
  exact (weak_nil (s := ⟨n, m, env, st⟩)).trans h
theorem w_lift {s : Sx} (t E sz : Nat) (h : lk env t = some [.c .emp]) (hs : Push st (some (.row true false E sz [])) st') (hw : Weak G ⟨n, m, (t, [.c (.row st.length)]) :: env, st'⟩ s) : Weak G ⟨n, m, env, st⟩ s := by
  have := weak_lift (G := G) (s := ⟨n, m, env, st⟩) t E sz h
  rw [hs.eq] at this
  exact this.trans hw
theorem w_liftC {s : Sx} {T : TypeId} {cs cs' : List BV} {st1 : Store} (b i E sz : Nat) (hb : st[b]? = some (some (.box true T cs))) (h : cs[i]? = some .emp) (hc : SetAt cs i (.row st.length) cs') (h1 : SetAt st b (some (.box true T cs')) st1) (hs : Push st1 (some (.row true false E sz [])) st') (hw : Weak G ⟨n, m, env, st'⟩ s) : Weak G ⟨n, m, env, st⟩ s := by
  have := weak_liftC (G := G) (s := ⟨n, m, env, st⟩) b i E sz hb h
  rw [hc.eq, h1.eq, hs.eq] at this
  exact this.trans hw
theorem w_sub {s : Sx} (h : SubEnv env env') (hw : Weak G ⟨n, m, env', st⟩ s) : Weak G ⟨n, m, env, st⟩ s := (weak_sub' h).trans hw
theorem w_cut {s : Sx} (k : Nat) (h : decide (m ≤ k) = true) (h' : decide (k ≤ st.length) = true) (he : mapEnv (cut k) env = env') (hs : (mapSt (cut k) st).take k = st') (hw : Weak G ⟨n, m, env', st'⟩ s) : Weak G ⟨n, m, env, st⟩ s := by
  subst he; subst hs
  exact (weak_cut (s := ⟨n, m, env, st⟩) k h (by simpa using h')).trans hw
end
end Go.Proofs.YtaaihamelknhdaaGreatDoor.Abs
