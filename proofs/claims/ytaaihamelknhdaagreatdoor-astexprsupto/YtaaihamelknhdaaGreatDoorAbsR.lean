/- Abstract states of the machine: the rules as a walk uses them (the state written out). -/
import Derived.Test.YtaaihamelknhdaaGreatDoorAbs9
namespace Go.Proofs.YtaaihamelknhdaaGreatDoor.Abs
open Go Go.RowKit
set_option linter.unusedVariables false
set_option linter.unusedSimpArgs false
section
variable {P : Program} {G : Nat → Option (List PV)} {ops : Array Oper} {o : Oper} {l : List Oper} {n m t : Nat} {env : List (Nat × List XV)} {st st' : Store} {K : Sx → Prop} {Q : Exit → Sx → Prop}

theorem L {x : List XV} (hg : o.guard = none) (hd : o.dst = some t) (h : LtT P G o ⟨n, m, env, st⟩ x) (ht : decide (t < n) = true) (hk : OpsT P G ops l ⟨n, m, (t, x) :: env, st⟩ K) : OpsT P G ops (o :: l) ⟨n, m, env, st⟩ K :=
  ops_cons hg (op_lt hd (by simpa using ht) h hk)
/-- A guarded operation that is carried out. -/
theorem Lg {x : List XV} {j d : Nat} {want b : Bool} (hg : o.guard = some (j, want)) (hj : (ops[j]?).bind (·.dst) = some d) (hb : lk env d = some [.c (.pv (.bool b))]) (hw : b = want) (hd : o.dst = some t) (h : LtT P G o ⟨n, m, env, st⟩ x) (ht : decide (t < n) = true)
    (hk : OpsT P G ops l ⟨n, m, (t, x) :: env, st⟩ K) : OpsT P G ops (o :: l) ⟨n, m, env, st⟩ K :=
  ops_guard hg hj hb hd ht (fun _ => op_lt hd (by simpa using ht) h hk) (fun e => by rw [hw] at e; cases want <;> cases e)
/-- A guarded operation that is passed over. -/
theorem Ls {j d : Nat} {want b : Bool} (hg : o.guard = some (j, want)) (hj : (ops[j]?).bind (·.dst) = some d) (hb : lk env d = some [.c (.pv (.bool b))]) (hw : b = !want) (hd : o.dst = some t) (ht : decide (t < n) = true)
    (hk : OpsT P G ops l ⟨n, m, (t, [.u]) :: env, st⟩ K) : OpsT P G ops (o :: l) ⟨n, m, env, st⟩ K :=
  ops_guard hg hj hb hd ht (fun e => by rw [hw] at e; cases want <;> cases e) (fun _ => hk)
/-- A guarded operation that makes, writes or calls, and is carried out. -/
theorem Hg {j d : Nat} {want b : Bool} (hg : o.guard = some (j, want)) (hj : (ops[j]?).bind (·.dst) = some d) (hb : lk env d = some [.c (.pv (.bool b))]) (hw : b = want) (hd : o.dst = some t) (ht : decide (t < n) = true)
    (h : OpT P G o ⟨n, m, env, st⟩ (fun s' => OpsT P G ops l s' K)) : OpsT P G ops (o :: l) ⟨n, m, env, st⟩ K :=
  ops_guard hg hj hb hd ht (fun _ => h) (fun e => by rw [hw] at e; cases want <;> cases e)
theorem box {T : TypeId} {x : Operand} {y : XV} {cs : List BV} (b : Nat) (hd : o.dst = some t) (ht : decide (t < n) = true) (ho : o.op = .box T x) (hx : val G env x = some y) (hc : y.cells = some cs) (hb : st.length = b) (hs : st ++ [some (.box true T cs)] = st')
    (hk : K ⟨n, m, (t, [.c (.box b 0)]) :: env, st'⟩) : OpT P G o ⟨n, m, env, st⟩ K := by
  subst hb; subst hs
  exact op_box hd ht ho hx hc hk
theorem alloc {T : TypeId} {z : Value} {y : XV} {cs : List BV} (b : Nat) (hd : o.dst = some t) (ht : decide (t < n) = true) (ho : o.op = .alloc T) (hz : (P.info? T).bind (·.zero) = some z) (hy : cv z = some y) (hc : y.cells = some cs) (hb : st.length = b) (hs : st ++ [some (.box true T cs)] = st')
    (hk : K ⟨n, m, (t, [.c (.box b 0)]) :: env, st'⟩) : OpT P G o ⟨n, m, env, st⟩ K := by
  subst hb; subst hs
  exact op_alloc hd ht ho hz hy hc hk
theorem store {T T0 : TypeId} {x y : Operand} {b off sz : Nat} {agg : Bool} {v : XV} {cs ys cs' : List BV} (hd : o.dst = none) (ho : o.op = .store T x y) (hT : Ty P T agg sz)
    (hx : val G env x = some (.c (.box b off))) (hb : st[b]? = some (some (.box true T0 cs))) (hy : val G env y = some v) (hc : v.cells = some ys) (hl : ys.length = sz) (hfit : decide (off + ys.length ≤ cs.length) = true)
    (he : putAt cs off ys = cs') (hs : st.set b (some (.box true T0 cs')) = st') (hk : K ⟨n, m, env, st'⟩) : OpT P G o ⟨n, m, env, st⟩ K := by
  subst hs
  exact op_store hd ho hT hx hb hy hc hl (by simpa using hfit) he hk
theorem call {f : FuncId} {xs : Array Operand} {ts : Array TypeId} {argsX argsL : List XV} {stL : Store} {R : List XV → Store → Prop} (ids ro : List Nat) (hd : o.dst = some t) (ht : decide (t < n) = true)
    (ho : o.op = .call { callee := .value (.func f), args := xs, argTypes := ts }) (hcall : ∀ (args : Array Value) (w : World), (callFunc f args).run P w = .ok (.enter f args) w) (ha : vals G env xs.toList = some argsX)
    (hn : (decide ids.Nodup && ids.all (fun b => decide (b < st.length))) = true) (hargs : argsX.map (XV.map (loc ids)) = argsL) (hst : locS ids ro st = stL) (hM : Meets P G f argsL stL R)
    (hk : ∀ r st', R r st' → K (behind ⟨n, m, env, st⟩ t ids ro r st')) : OpT P G o ⟨n, m, env, st⟩ K :=
  op_call ids ro hd ht ho hcall ha hn hargs hst hM hk
theorem callFn {g : Operand} {f : FuncId} {first caps : List BV} {xs : Array Operand} {ts : Array TypeId} {argsX argsL : List XV} {stL : Store} {R : List XV → Store → Prop} (ids ro : List Nat) (hd : o.dst = some t) (ht : decide (t < n) = true)
    (ho : o.op = .call { callee := .value g, args := xs, argTypes := ts }) (hg : val G env g = some (.fn (.func f) first caps)) (hcall : ∀ (args : Array Value) (w : World), (callFunc f args).run P w = .ok (.enter f args) w) (ha : vals G env xs.toList = some argsX)
    (hn : (decide ids.Nodup && ids.all (fun b => decide (b < st.length))) = true) (hargs : (first.map XV.c ++ argsX ++ caps.map XV.c).map (XV.map (loc ids)) = argsL) (hst : locS ids ro st = stL) (hM : Meets P G f argsL stL R)
    (hk : ∀ r st', R r st' → K (behind ⟨n, m, env, st⟩ t ids ro r st')) : OpT P G o ⟨n, m, env, st⟩ K :=
  op_callFn ids ro hd ht ho hg hcall ha hn hargs hst hM hk
/-- A value told whole, and in no object. -/
def BV.pure : BV → Bool
  | .any | .pv _ | .emp | .ep _ => true
  | _ => false
def XV.pure : XV → Bool
  | .u => true
  | .c x => x.pure
  | .agg xs => xs.all BV.pure
  | .fn _ a b => a.all BV.pure && b.all BV.pure
theorem re_pure (g : Nat → Option Nat) {x : BV} (h : x.pure = true) : re g x = x := by cases x <;> first | rfl | cases h
theorem map_pure {f : BV → BV} (hf : ∀ x : BV, x.pure = true → f x = x) {x : XV} (h : x.pure = true) : x.map f = x := by
  have l : ∀ xs : List BV, xs.all BV.pure = true → xs.map f = xs := fun xs hx => by
    induction xs with
    | nil => rfl
    | cons y ys ih => simp only [List.all_cons, Bool.and_eq_true] at hx; simp [hf y hx.1, ih hx.2]
  cases x with
  | u => rfl
  | c x => simp [XV.map, hf x h]
  | agg xs => simp [XV.map, l xs h]
  | fn g a b => simp only [XV.pure, Bool.and_eq_true] at h; simp [XV.map, l a h.1, l b h.2]
theorem maps_pure {f : BV → BV} (hf : ∀ x : BV, x.pure = true → f x = x) {xs : List XV} (h : xs.all XV.pure = true) : xs.map (XV.map f) = xs := by
  induction xs with
  | nil => rfl
  | cons y ys ih => simp only [List.all_cons, Bool.and_eq_true] at h; simp [map_pure hf h.1, ih h.2]
theorem re_some (x : BV) : re (fun b => some b) x = x := by cases x <;> rfl
theorem pur_nil (st' : Store) : pur [] st' = id := by
  funext x
  exact re_some x
theorem mergeL_nil (ro : List Nat) (k : Nat) (st' : Store) : ∀ (b : Nat) (st : Store), mergeL [] ro k st' b st = st
  | _, [] => rfl
  | b, x :: r => by
    simp only [mergeL, mergeL_nil ro k st' (b + 1) r, mergeAt, pos, pur_nil]
    cases x with
    | none => rfl
    | some o => cases o <;> simp [Obj'.map]
/-- A call whose arguments and results lie in no object. -/
theorem callP {f : FuncId} {xs : Array Operand} {ts : Array TypeId} {args : List XV} {R : List XV → Prop} (hd : o.dst = some t) (ht : decide (t < n) = true)
    (ho : o.op = .call { callee := .value (.func f), args := xs, argTypes := ts }) (hcall : ∀ (args : Array Value) (w : World), (callFunc f args).run P w = .ok (.enter f args) w) (ha : vals G env xs.toList = some args) (hp : args.all XV.pure = true)
    (hM : Meets P G f args [] (fun r st' => R r ∧ r.all XV.pure = true ∧ st' = [])) (hk : ∀ r, R r → K ⟨n, m, (t, r) :: env, st⟩) : OpT P G o ⟨n, m, env, st⟩ K := by
  refine op_call [] [] hd ht ho hcall ha rfl (maps_pure (fun x h => re_pure _ h) hp) rfl hM ?_
  rintro r st' ⟨h1, h2, rfl⟩
  have e : behind ⟨n, m, env, st⟩ t [] [] r [] = ⟨n, m, (t, r) :: env, st⟩ := by
    unfold behind
    rw [maps_pure (f := unl [] (List.length st)) (fun x h => re_pure _ h) h2, pur_nil, mapEnv_id]
    simp [merge, mergeL_nil]
  rw [e]
  exact hk r h1
theorem callFnP {g : Operand} {f : FuncId} {xs : Array Operand} {ts : Array TypeId} {args : List XV} {R : List XV → Prop} (hd : o.dst = some t) (ht : decide (t < n) = true)
    (ho : o.op = .call { callee := .value g, args := xs, argTypes := ts }) (hg : val G env g = some (.fn (.func f) [] [])) (hcall : ∀ (args : Array Value) (w : World), (callFunc f args).run P w = .ok (.enter f args) w) (ha : vals G env xs.toList = some args) (hp : args.all XV.pure = true)
    (hM : Meets P G f args [] (fun r st' => R r ∧ r.all XV.pure = true ∧ st' = [])) (hk : ∀ r, R r → K ⟨n, m, (t, r) :: env, st⟩) : OpT P G o ⟨n, m, env, st⟩ K := by
  refine op_callFn [] [] hd ht ho hg hcall ha rfl (by simp only [List.map_nil, List.nil_append, List.append_nil]; exact maps_pure (fun x h => re_pure _ h) hp) rfl hM ?_
  rintro r st' ⟨h1, h2, rfl⟩
  have e : behind ⟨n, m, env, st⟩ t [] [] r [] = ⟨n, m, (t, r) :: env, st⟩ := by
    unfold behind
    rw [maps_pure (f := unl [] (List.length st)) (fun x h => re_pure _ h) h2, pur_nil, mapEnv_id]
    simp [merge, mergeL_nil]
  rw [e]
  exact hk r h1
/-- A body whose results lie in no object: the call's own objects are dropped. -/
theorem meetsP_of {f : FuncId} {fn : Func} {c : Code} {args : List XV} {R : List XV → Prop} {N : Nat} (hf : P.funcs[f]? = some fn) (hb : fn.body = some c) (hN : fn.ntmps = N) (ha : decide (args.length ≤ N) = true) (he : argEnv args 0 = env)
    (h : CodeT P G c ⟨N, 0, env, []⟩ (RetQ P fn (fun r _ => R r ∧ r.all XV.pure = true))) : Meets P G f args [] (fun r st' => R r ∧ r.all XV.pure = true ∧ st' = []) := by
  have h0 := meets_of (st := []) (m := 0) (Q := fun r _ => R r ∧ r.all XV.pure = true) hf hb hN ha he rfl h
  intro η J w vs hok hl
  refine (h0 η J w vs hok hl).mono ?_
  rintro e w' ⟨v, η', J', r, st', he, ⟨h1, h2⟩, hR, hok', hex⟩
  have hmap : ∀ x v, BVr η' J' w' x v → BVr ⟨η'.f, fun _ => False⟩ J' w' (cut 0 x) v := fun x v hx => by
    have one := hx.one
    cases x with
    | row c => exact one
    | rp c sz i o => exact one
    | box c o => exact one
    | bx c n => exact one
    | any => exact hx
    | pv p => exact hx
    | emp => exact hx
    | ep xs => exact hx
  have hR' := hR.map hmap
  rw [maps_pure (fun x h => by cases x <;> first | rfl | cases h) h2] at hR'
  refine ⟨v, ⟨η'.f, fun _ => False⟩, J', r, [], he, ⟨h1, h2, rfl⟩, hR', ⟨fun b hb => hb.elim, hok'.jlt, fun b o hb => by simp at hb, fun b c o o' k hb => by simp at hb, fun b o k hb => by simp at hb, hok'.glob⟩, ⟨hex.jj, hex.os, hex.tape, hex.output, hex.size, hex.keep, hex.jn, Nat.le_refl _, fun b o k hb => by simp at hb, fun b o hl => by simp at hl⟩⟩
end
end Go.Proofs.YtaaihamelknhdaaGreatDoor.Abs
