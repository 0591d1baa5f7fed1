/- Abstract states of the machine: ends, calls of function values, calls in drawn regions, arrays at places that are reckoned. -/
import Derived.Test.YtaaihamelknhdaaGreatDoorAbsQ
namespace Go.Proofs.YtaaihamelknhdaaGreatDoor.Abs
open Go Go.RowKit
set_option linter.unusedVariables false
set_option linter.unusedSimpArgs false
section
variable {P : Program} {G : Nat → Option (List PV)} {ops : Array Oper} {o : Oper} {l : List Oper} {n m t : Nat} {env env' : List (Nat × List XV)} {st st' : Store} {K : Sx → Prop} {Q : Exit → Sx → Prop}

/-! ### Ends: what is handed back, and the objects, may say less -/
def RW {ρ : Type} (P : Program) (G : Nat → Option (List PV)) (fn : Func) (m : Nat) (res : ρ → List XV) (out : ρ → Store) (r : ρ) : Exit → Sx → Prop
  | .ret, s => ∃ x, ResR P s fn.results.toList x ∧ Weak G ⟨1, m, [(0, x)], s.st⟩ ⟨1, m, [(0, res r)], out r⟩
  | _, _ => False
theorem RW.only {ρ : Type} {fn : Func} {res : ρ → List XV} {out : ρ → Store} : OnlyRet (RW P G fn m res out) := fun r e s h => by cases e <;> first | rfl | exact False.elim h
theorem rw_ {ρ : Type} {fn : Func} {res : ρ → List XV} {out : ρ → Store} {r : ρ} {s : Sx} {x : List XV} (h : ResR P s fn.results.toList x) (hw : Weak G ⟨1, m, [(0, x)], s.st⟩ ⟨1, m, [(0, res r)], out r⟩) : RW P G fn m res out r .ret s := ⟨x, h, hw⟩
def RWN {ρ : Type} (P : Program) (G : Nat → Option (List PV)) (fn : Func) (m : Nat) (res : ρ → List XV) (out : ρ → Store) (r : ρ) : Exit → Sx → Prop
  | .ret, s | .normal, s => ∃ s', Weak G s s' ∧ ∃ x, ResR P s' fn.results.toList x ∧ Weak G ⟨1, m, [(0, x)], s'.st⟩ ⟨1, m, [(0, res r)], out r⟩
  | _, _ => False
theorem rwn {ρ : Type} {fn : Func} {res : ρ → List XV} {out : ρ → Store} {r : ρ} {s : Sx} {x : List XV} (h : ResR P s fn.results.toList x) (hw : Weak G ⟨1, m, [(0, x)], s.st⟩ ⟨1, m, [(0, res r)], out r⟩) : RWN P G fn m res out r .normal s := ⟨s, Weak.refl _, x, h, hw⟩
theorem rwr {ρ : Type} {fn : Func} {res : ρ → List XV} {out : ρ → Store} {r : ρ} {s : Sx} (h : RW P G fn m res out r .ret s) : RWN P G fn m res out r .ret s := ⟨s, Weak.refl _, h⟩
theorem wW {ρ : Type} {fn : Func} {res : ρ → List XV} {out : ρ → Store} {r : ρ} : WkN G (RWN P G fn m res out r) := fun s s' hw ⟨s2, h1, h2⟩ => ⟨s2, hw.trans h1, h2⟩
theorem meetsW_of {ρ : Type} {f : FuncId} {fn : Func} {c : Code} {args : List XV} {st0 : Store} {N : Nat} (res : ρ → List XV) (out : ρ → Store) (r : ρ) (hf : P.funcs[f]? = some fn) (hb : fn.body = some c) (hN : fn.ntmps = N) (ha : decide (args.length ≤ N) = true) (he : argEnv args 0 = env) (hm : st0.length = m)
    (h : CodeT P G c ⟨N, m, env, st0⟩ (RWN P G fn m res out r)) : MeetsS P G f args st0 (res r) (out r) := by
  have h1 : CodeT P G c ⟨N, m, env, st0⟩ (RetQ P fn (fun x s => Weak G ⟨1, m, [(0, x)], s⟩ ⟨1, m, [(0, res r)], out r⟩)) := fun E η J a w hr =>
    wp_mono (h E η J a w hr) fun e a' w' ⟨η', J', s', hQ, hr'⟩ => by
      have go : (∃ s2, Weak G s' s2 ∧ ∃ x, ResR P s2 fn.results.toList x ∧ Weak G ⟨1, m, [(0, x)], s2.st⟩ ⟨1, m, [(0, res r)], out r⟩) → ∃ η'' J'' s2, (∃ x, ResR P s2 fn.results.toList x ∧ Weak G ⟨1, m, [(0, x)], s2.st⟩ ⟨1, m, [(0, res r)], out r⟩) ∧ Rel G E η'' J'' s2 a' w' := fun ⟨s2, hw, x, h2, h3⟩ => by
        obtain ⟨η'', J'', h4⟩ := hw E η' J' a' w' hr'
        exact ⟨η'', J'', s2, ⟨x, h2, h3⟩, h4⟩
      cases e <;> first | exact go hQ | exact False.elim hQ
  have h0 := meets_of (Q := fun x s => Weak G ⟨1, m, [(0, x)], s⟩ ⟨1, m, [(0, res r)], out r⟩) hf hb hN ha he hm h1
  intro η J w vs hok hl
  refine (h0 η J w vs hok hl).mono ?_
  rintro e w' ⟨v, η', J', x, st', rfl, hQ, hR, hok', hex⟩
  have hE : ∀ t xs, lk [(0, x)] t = some xs → Rs η' J' w' xs ((#[v] : Array Value).getD t undef) := fun t xs ht => by
    simp only [lk] at ht
    split at ht
    · rename_i e; subst e; injection ht with ht; subst ht; exact hR
    · cases ht
  have hrel : Rel G ⟨η, J, w, st0⟩ η' J' ⟨1, m, [(0, x)], st'⟩ ⟨#[v], []⟩ w' := ⟨rfl, hm, rfl, hE, hok', hex⟩
  obtain ⟨η'', J'', h2⟩ := hQ _ _ _ _ _ hrel
  exact ⟨v, η'', J'', _, _, rfl, ⟨rfl, rfl⟩, h2.env 0 _ rfl, h2.ok, h2.ex⟩
theorem MeetsS.toV {f : FuncId} {args res : List XV} (h : MeetsS P G f args [] res []) (hp : res.all XV.pure = true) : MeetsV P G f args res :=
  fun η J w vs ho ha => (h η J w vs ho ha).mono fun e w' ⟨v, η', J', r, st', he, ⟨h1, h2⟩, rest⟩ => ⟨v, η', J', r, st', he, ⟨h1, h1 ▸ hp, h2⟩, rest⟩

/-! ### Calls of function values that change nothing -/
theorem run_callFn {E : En} {η : Hd} {J : Nat → Prop} {s : Sx} {a : Act} {w : World} (hr : Rel G E η J s a w) {g : Operand} {f : FuncId} {first caps : List BV} {xs : Array Operand} {ts : Array TypeId} {args : List XV}
    (ho : o.op = .call { callee := .value g, args := xs, argTypes := ts }) (hg : val G s.env g = some (.fn (.func f) first caps)) (hcall : ∀ (args : Array Value) (w : World), (callFunc f args).run P w = .ok (.enter f args) w) (ha : vals G s.env xs.toList = some args) :
    ∃ vs : List Value, (execOp a.eval o).run P w = .ok (.enter f vs.toArray) w ∧ L2 (XVr η J w) (first.map XV.c ++ args ++ caps.map XV.c) vs := by
  obtain ⟨fs, cs, h1, h2, h3⟩ := hr.val hg
  have lift : ∀ (l : List BV) (us : List Value), L2 (BVr η J w) l us → L2 (XVr η J w) (l.map XV.c) us := fun l us h => ⟨by simpa using h.len, fun i x y hx hy => by
    rw [List.getElem?_map] at hx
    cases hi : l[i]? with
    | none => rw [hi] at hx; cases hx
    | some z => rw [hi] at hx; injection hx with hx; subst hx; exact h.at_ i z y hi hy⟩
  refine ⟨fs ++ xs.toList.map a.eval ++ cs, ?_, ((lift _ _ h2).append (hr.vals ha)).append (lift _ _ h3)⟩
  have e : (fs.toArray ++ xs.map a.eval ++ cs.toArray) = (fs ++ xs.toList.map a.eval ++ cs).toArray := by
    apply Array.ext'; simp
  simp only [execOp, ho, resolve, h1, Deferred.ofValue, invoke]
  simp only [Sem.run_bind, Sem.run_pure, Result.andThen_ok, hcall, e]
theorem fl_callFn {g : Operand} {f : FuncId} {first caps : List BV} {xs : Array Operand} {ts : Array TypeId} {args argsF res : List XV}
    (ho : o.op = .call { callee := .value g, args := xs, argTypes := ts }) (hg : val G env g = some (.fn (.func f) first caps)) (hcall : ∀ (args : Array Value) (w : World), (callFunc f args).run P w = .ok (.enter f args) w) (ha : vals G env xs.toList = some args)
    (hv : (first.map XV.c ++ args ++ caps.map XV.c).map (XV.map nilE) = argsF) (hp : argsF.all XV.pure = true) (hM : MeetsV P G f argsF res) : FlT P G o ⟨n, m, env, st⟩ res := by
  subst hv
  intro E η J a w hr K' Q' hK
  unfold Oper.wp
  obtain ⟨vs, hrun, hl⟩ := run_callFn hr ho hg hcall ha
  rw [hrun, Oper.upon_enter]
  have hok : Ok G ⟨η.f, fun _ => False⟩ J w [] := ⟨fun b hb => hb.elim, hr.ok.jlt, fun b o hb => by simp at hb, fun b c o o' k hb => by simp at hb, fun b o k hb => by simp at hb, hr.ok.glob⟩
  refine (hM ⟨η.f, fun _ => False⟩ J w _ hok (pureXs hp (hl.xmap (fun _ _ => nilE_sound)))).mono ?_
  rintro e w' ⟨v, η', J', r, st', rfl, ⟨rfl, h2, rfl⟩, hR, hok', hex⟩
  exact hK v w' J' ⟨hex.jj, hex.os, hex.tape, hex.output, hex.size, fun k hk => hex.keep k hk no_wst, fun k hk => (hex.jn k hk).imp id (fun h => h.resolve_right no_wst), hok'.jlt⟩ (pureR h2 hR)

/-! ### Calls that turn objects, under a guard -/
theorem callO {f : FuncId} {xs : Array Operand} {ts : Array TypeId} {argsX argsL res argsX' : List XV} {stL stR : Store} (ids ro : List Nat) (hd : o.dst = some t) (ht : decide (t < n) = true)
    (ho : o.op = .call { callee := .value (.func f), args := xs, argTypes := ts }) (hcall : ∀ (args : Array Value) (w : World), (callFunc f args).run P w = .ok (.enter f args) w) (ha : vals G env xs.toList = some argsX)
    (hn : (decide ids.Nodup && ids.all (fun b => decide (b < st.length))) = true) (hargs : argsX.map (XV.map (loc ids)) = argsL) (hst : locS ids ro st = stL) (hM : MeetsS P G f argsL stL res stR)
    (he : mapEnv (pur ids stR) env = env') (hr : res.map (XV.map (unl ids st.length)) = argsX') (hs : merge ids ro st stR = st')
    (hk : OpsT P G ops l ⟨n, m, (t, argsX') :: env', st'⟩ K) : OpT P G o ⟨n, m, env, st⟩ (fun s' => OpsT P G ops l s' K) := by
  refine call ids ro hd ht ho hcall ha hn hargs hst hM (fun r s ⟨h1, h2⟩ => ?_)
  subst h1; subst h2; subst he; subst hr; subst hs
  exact hk
/-! ### Calls that turn objects, in a drawn region -/
theorem vals_mono {env env' : List (Nat × List XV)} (h : ∀ u xs, lk env u = some xs → lk env' u = some xs) : ∀ {xs : List Operand} {ys : List XV}, vals G env xs = some ys → vals G env' xs = some ys
  | [], ys, hx => hx
  | x :: xs, ys, hx => by
    simp only [vals] at hx ⊢
    cases h1 : val G env x with
    | none => rw [h1] at hx; simp at hx
    | some y =>
      cases h2 : vals G env xs with
      | none => rw [h1, h2] at hx; simp at hx
      | some r => rw [val_mono h h1, vals_mono h h2]; rw [h1, h2] at hx; exact hx
theorem d_callS {t : Nat} {env0 env1 : List (Nat × List XV)} {T T1 : List Ent} {f : FuncId} {xs : Array Operand} {ts : Array TypeId} {argsX argsL res resX : List XV} {stL stR : Store} (W : List (List Bool)) (h : Nat) (ho : ops[h]? = some o) (hW : wOk ops W = true) (hT : okT ops m T = true) (hr : Region.ready .any ops (arrOf ops T) = [h]) (hn : apartB W (names ops h) h T = true) (hb : bornB W [] h T = true)
    (hgd : GuardIs ops o (restr (names ops h) (envT All env0 T)) true) (hV : Owed P G ops W n m env0 st T [] T)
    (ids ro : List Nat) (hd : o.dst = some t) (ht : decide (t < n) = true)
    (hop : o.op = .call { callee := .value (.func f), args := xs, argTypes := ts }) (hcall : ∀ (args : Array Value) (w : World), (callFunc f args).run P w = .ok (.enter f args) w) (ha : vals G (restr (names ops h) (envT All env0 T)) xs.toList = some argsX)
    (hnd : (decide ids.Nodup && ids.all (fun b => decide (b < st.length))) = true) (hargs : argsX.map (XV.map (loc ids)) = argsL) (hst : locS ids ro st = stL) (hM : MeetsS P G f argsL stL res stR)
    (he1 : mapEnv (pur ids stR) env0 = env1) (hT1 : mapT (pur ids stR) T = T1) (hrs : res.map (XV.map (unl ids st.length)) = resX) (hs : merge ids ro st stR = st') (hk : DrT P G ops n m env1 (⟨h, some t, resX, .heavy⟩ :: T1) st' K) : DrT P G ops n m env0 T st K := by
  subst hs; subst he1; subst hT1; subst hrs
  refine d_heavy W h ho hW hT hr hn hb hgd hV (t := some t) (fun x f s' => x = res.map (XV.map (unl ids st.length)) ∧ f = pur ids stR ∧ s' = merge ids ro st stR) (fun env henv => ?_) (fun x f s' hD => ?_)
  · refine call ids ro hd ht hop hcall (vals_mono henv ha) hnd hargs hst hM (fun r s ⟨h1, h2⟩ => ?_)
    subst h1; subst h2
    exact ⟨_, _, _, ⟨rfl, rfl, rfl⟩, rfl⟩
  · obtain ⟨rfl, rfl, rfl⟩ := hD
    exact hk
theorem d_storeG {env0 : List (Nat × List XV)} {T : List Ent} {TT T0 : TypeId} {x y : Operand} {b off sz : Nat} {agg : Bool} {v : XV} {cs ys cs' : List BV} (W : List (List Bool)) (h : Nat) (ho : ops[h]? = some o) (hW : wOk ops W = true) (hT : okT ops m T = true) (hr : Region.ready .any ops (arrOf ops T) = [h]) (hn : apartB W (names ops h) h T = true) (hb : bornB W [] h T = true)
    (hgd : GuardIs ops o (restr (names ops h) (envT All env0 T)) true) (hV : Owed P G ops W n m env0 st T [] T)
    (hd : o.dst = none) (hop : o.op = .store TT x y) (hTT : Ty P TT agg sz) (hx : val G (restr (names ops h) (envT All env0 T)) x = some (.c (.box b off))) (hbx : st[b]? = some (some (.box true T0 cs))) (hy : val G (restr (names ops h) (envT All env0 T)) y = some v) (hc : v.cells = some ys) (hl : ys.length = sz) (hfit : off + ys.length ≤ cs.length)
    (he : putAt cs off ys = cs') (hs : st.set b (some (.box true T0 cs')) = st') (hk : DrT P G ops n m env0 (⟨h, none, [], .heavy⟩ :: T) st' K) : DrT P G ops n m env0 T st K :=
  d_store W h ho hW hT hr hn hb hgd hV hd hop hTT hx hbx hy hc hl (by simpa using hfit) he hs hk

/-! ### Arrays at places that are reckoned -/
section arrays
variable {α : Type} {e : α → PV} {len : Nat} {D D1 : Nat → α} {D2 D3 : Nat → Nat → α} {n1 n2 k k1 k2 off b : Nat} {cs cs' : List BV}
theorem fit1 {pre post : List PV} (hc : cs = (pre ++ (ar len (fun i => [e (D i)]) ++ post)).map BV.pv) (hk : k < len) : pre.length + k * 1 + 1 ≤ cs.length := by
  rw [hc, List.length_map, List.length_append, List.length_append, ar_len (sz := 1) (fun _ => rfl)]; omega
theorem fit2 {pre post : List PV} (hc : cs = (pre ++ (ar n1 (fun i => ar n2 fun j => [e (D2 i j)]) ++ post)).map BV.pv) (h1 : k1 < n1) (h2 : k2 < n2) : pre.length + k1 * n2 + k2 * 1 + 1 ≤ cs.length := by
  have : (k1 + 1) * n2 ≤ n1 * n2 := Nat.mul_le_mul_right n2 (by omega)
  rw [Nat.succ_mul] at this
  rw [hc, List.length_map, List.length_append, List.length_append, ar_len (fun i => in_len i)]; omega
theorem put1 {pre post : List PV} {x : α} (hc : cs = (pre ++ (ar len (fun i => [e (D i)]) ++ post)).map BV.pv) (hk : k < len) (hD : upd D k x = D1) (hc' : (pre ++ (ar len (fun i => [e (D1 i)]) ++ post)).map BV.pv = cs') : putAt cs (pre.length + k * 1) [.pv (e x)] = cs' := by
  subst hc; subst hD; subst hc'
  exact a1_set pre post x hk
theorem put2 {pre post : List PV} {x : α} (hc : cs = (pre ++ (ar n1 (fun i => ar n2 fun j => [e (D2 i j)]) ++ post)).map BV.pv) (h1 : k1 < n1) (h2 : k2 < n2) (hD : upd2 D2 k1 k2 x = D3) (hc' : (pre ++ (ar n1 (fun i => ar n2 fun j => [e (D3 i j)]) ++ post)).map BV.pv = cs') : putAt cs (pre.length + k1 * n2 + k2 * 1) [.pv (e x)] = cs' := by
  subst hc; subst hD; subst hc'
  exact a2_set pre post x h1 h2
theorem at1 {pre post : List PV} (hc : cs = (pre ++ (ar len (fun i => [e (D i)]) ++ post)).map BV.pv) (hk : k < len) : cs[pre.length + k * 1]? = some (.pv (e (D k))) := by
  subst hc; exact a1_get pre post hk
theorem at2 {pre post : List PV} (hc : cs = (pre ++ (ar n1 (fun i => ar n2 fun j => [e (D2 i j)]) ++ post)).map BV.pv) (h1 : k1 < n1) (h2 : k2 < n2) : cs[pre.length + k1 * n2 + k2 * 1]? = some (.pv (e (D2 k1 k2))) := by
  subst hc; exact a2_get pre post h1 h2
theorem atR {pre post : List PV} {ys : List BV} (hc : cs = (pre ++ (ar n1 (fun i => ar n2 fun j => [e (D2 i j)]) ++ post)).map BV.pv) (h1 : k1 < n1) (hy : (ar n2 fun j => [e (D2 k1 j)]).map BV.pv = ys) : (cs.drop (pre.length + k1 * n2)).take n2 = ys := by
  subst hc; subst hy; exact a2_row pre post h1
/-- An element of an array that is a value. -/
theorem ix1 {T E : TypeId} {x ix : Operand} {kk : IntKind} {i : Int} (ho : o.op = .index T x ix) (hu : P.underlying T = some (.array len E)) (hT : Ty P E false 1)
    (hx : val G env x = some (.agg cs)) (hi : val G env ix = some (.c (.pv (.int kk i)))) (hc : cs = (([] : List PV) ++ (ar len (fun i => [e (D i)]) ++ [])).map BV.pv) (h : inA len i = some k) : LtT P G o ⟨n, m, env, st⟩ [.c (.pv (e (D k)))] := by
  obtain ⟨h0, h1, rfl⟩ := inAE h
  intro En η J a w hr
  obtain ⟨vs, h2, h3⟩ := hr.val hx
  have h4 := rd_int (hr.val hi)
  obtain ⟨u, h5, h6⟩ := h3.get (at1 (k := i.toNat) hc (by omega))
  refine ⟨u, ?_, h6⟩
  have h7 : vs[i.toNat]? = some u := by simpa using h5
  have h8 := run_sizeOf' hT w
  have h9 := run_isAgg' hT w
  simp [execOp, ho, h2, h4, Instr.index, asIntOf, run_underlying hu, h0, h1, h8, part, h9, h7]
end arrays
theorem ia_slR {α : Type} {e : α → List PV} {T E : TypeId} {x ix : Operand} {k : IntKind} {i : Int} {sz : Nat} {agg : Bool} {L : List α} {y : α} {ps : List PV} (ho : o.op = .indexAddr T x ix) (hu : P.underlying T = some (.slice E)) (hT : Ty P E agg sz)
    (hx : val G env x = some (.c (.pv (.sl (L.map e))))) (hi : val G env ix = some (.c (.pv (.int k i)))) (h : idx L i = some y) (he : e y = ps) (hl : ps.length = sz) : LtT P G o ⟨n, m, env, st⟩ [.c (.ep ps)] := by
  subst he
  exact ia_sl ho hu hT hx hi h hl
theorem fnV {f : Fn} {first caps : Array Operand} {xs ys : List BV} (ho : o.op = .makeFunc f first caps) (h1 : vals G env first.toList = some (xs.map XV.c)) (h2 : vals G env caps.toList = some (ys.map XV.c)) : LtT P G o ⟨n, m, env, st⟩ [.fn f xs ys] := by
  have go : ∀ (l : Array Operand) (zs : List BV), vals G env l.toList = some (zs.map XV.c) → ∀ E η J a w, Rel G E η J ⟨n, m, env, st⟩ a w → L2 (BVr η J w) zs (l.map a.eval).toList := fun l zs h E η J a w hr => by
    have h3 := hr.vals h
    refine ⟨by have := h3.len; simpa using this, fun i x y hx hy => ?_⟩
    exact h3.at_ i (.c x) y (by rw [List.getElem?_map, hx]; rfl) (by simpa using hy)
  exact lt_fn ho (go first xs h1) (go caps ys h2)
theorem lt_moveT {t : Nat} {ys : List XV} (ho : o.op = .move (.tmp t)) (hx : lk env t = some ys) : LtT P G o ⟨n, m, env, st⟩ ys := by
  intro E η J a w h
  exact ⟨a.tmps.getD t undef, by simp [execOp, ho, Act.eval], h.env t ys hx⟩
theorem lt_min4 {T U V X : TypeId} {x y z u : Operand} {k : IntKind} {a1 a2 a3 a4 : Int} (ho : o.op = .call { callee := .builtin .min, args := #[x, y, z, u], argTypes := #[T, U, V, X] }) (hx : val G env x = some (.c (.pv (.int k a1)))) (hy : val G env y = some (.c (.pv (.int k a2)))) (hz : val G env z = some (.c (.pv (.int k a3)))) (hu : val G env u = some (.c (.pv (.int k a4)))) :
    LtT P G o ⟨n, m, env, st⟩ [.c (.pv (.int k (min (min (min a1 a2) a3) a4)))] := by
  intro E η J a w h
  have h1 := rd_int (h.val hx)
  have h2 := rd_int (h.val hy)
  have h3 := rd_int (h.val hz)
  have h4 := rd_int (h.val hu)
  have e : ∀ a b : Int, min a b = if b < a then b else a := fun a b => by split <;> omega
  refine ⟨.int k (min (min (min a1 a2) a3) a4), ?_, .int _ _⟩
  rw [e (min (min a1 a2) a3), e (min a1 a2), e a1]
  simp [execOp, ho, resolve, invoke, builtin, h1, h2, h3, h4, Builtin.min_, Builtin.min2]
theorem lt_max4 {T U V X : TypeId} {x y z u : Operand} {k : IntKind} {a1 a2 a3 a4 : Int} (ho : o.op = .call { callee := .builtin .max, args := #[x, y, z, u], argTypes := #[T, U, V, X] }) (hx : val G env x = some (.c (.pv (.int k a1)))) (hy : val G env y = some (.c (.pv (.int k a2)))) (hz : val G env z = some (.c (.pv (.int k a3)))) (hu : val G env u = some (.c (.pv (.int k a4)))) :
    LtT P G o ⟨n, m, env, st⟩ [.c (.pv (.int k (max (max (max a1 a2) a3) a4)))] := by
  intro E η J a w h
  have h1 := rd_int (h.val hx)
  have h2 := rd_int (h.val hy)
  have h3 := rd_int (h.val hz)
  have h4 := rd_int (h.val hu)
  have e : ∀ a b : Int, max a b = if b > a then b else a := fun a b => by split <;> omega
  refine ⟨.int k (max (max (max a1 a2) a3) a4), ?_, .int _ _⟩
  rw [e (max (max a1 a2) a3), e (max a1 a2), e a1]
  simp [execOp, ho, resolve, invoke, builtin, h1, h2, h3, h4, Builtin.max_, Builtin.max2]
/-! ### Operations that are passed over: what they would have yielded is told, too -/
theorem skip0 {j d : Nat} {want : Bool} {xs : List XV} (hg : o.guard = some (j, want)) (hj : (ops[j]?).bind (·.dst) = some d) (hd : o.dst = some t) (ht : decide (t < n) = true)
    (hb : lk env d = some xs) (hw : xs = [] ∨ xs = [.c (.pv (.bool (!want)))]) (hk : OpsT P G ops l ⟨n, m, (t, []) :: env, st⟩ K) : OpsT P G ops (o :: l) ⟨n, m, env, st⟩ K := by
  intro E η J a w hr Q' hQ
  have hv := hr.env d _ hb
  have hy : yielded ops a.tmps j ≠ some want := by
    unfold yielded
    rw [hj]
    simp only [Option.bind_some]
    rw [Array.getD_eq_getD_getElem?] at hv
    cases h : a.tmps[d]? with
    | none => simp
    | some v =>
      rw [h] at hv; simp only [Option.getD_some] at hv
      rcases hw with rfl | rfl
      · obtain ⟨vs, rfl, hl⟩ := hv; simp
      · have : v = .bool (!want) := rd_bool hv
        subst this
        cases want <;> simp
  refine wpList_step fun K' hK => ?_
  have hw2 : Region.wanted o (yielded ops a.tmps) = false := by
    unfold Region.wanted; rw [hg]; simp only [beq_eq_false_iff_ne]; exact hy
  rw [if_neg (by rw [hw2]; simp), hd]
  exact hK _ _ (hk E η J _ w (hr.put (of_decide_eq_true ht) (x := []) (v := undef) ⟨[], rfl, L2.nil⟩) Q' hQ)
theorem Ls0 {j d : Nat} {want b : Bool} (hg : o.guard = some (j, want)) (hj : (ops[j]?).bind (·.dst) = some d) (hb : lk env d = some [.c (.pv (.bool b))]) (hw : b = !want) (hd : o.dst = some t) (ht : decide (t < n) = true)
    (hk : OpsT P G ops l ⟨n, m, (t, []) :: env, st⟩ K) : OpsT P G ops (o :: l) ⟨n, m, env, st⟩ K := skip0 hg hj hd ht hb (.inr (by rw [hw])) hk
theorem Lu {j d : Nat} {want : Bool} (hg : o.guard = some (j, want)) (hj : (ops[j]?).bind (·.dst) = some d) (hb : lk env d = some []) (hd : o.dst = some t) (ht : decide (t < n) = true)
    (hk : OpsT P G ops l ⟨n, m, (t, []) :: env, st⟩ K) : OpsT P G ops (o :: l) ⟨n, m, env, st⟩ K := skip0 hg hj hd ht hb (.inl rfl) hk
/-! ### Shorter spellings -/
def bs (l : List PV) : List BV := l.map BV.pv
def wm (l : List Nat) : List (List Bool) := l.map fun m => (List.range (Nat.log2 m + 1)).map fun i => Nat.testBit m i
theorem wkE {env1 env2 : List (Nat × List XV)} {st1 st2 : Store} (h1 : env1 = env2) (h2 : st1 = st2) : Weak G ⟨n, m, env1, st1⟩ ⟨n, m, env2, st2⟩ := by
  subst h1; subst h2; exact Weak.refl _
theorem d_endS {env0 env2 : List (Nat × List XV)} {T : List Ent} (W : List (List Bool)) (hW : wOk ops W = true) (hT : okT ops m T = true) (hr : Region.ready .any ops (arrOf ops T) = []) (hV : Owed P G ops W n m env0 st T [] T) (hs : SubEnv (envT All env0 T) env2) (hq : WkN G Q) (hK : Q .normal ⟨n, m, env2, st⟩) : DrT P G ops n m env0 T st (fun s' => Q .normal s') :=
  d_end W hW hT hr hV rfl (hq _ _ (weak_sub' hs) hK)
/-! ### Copies -/
/-- slices.Clone: its answer to whether the slice is nil may be either one where there are no elements. -/
theorem opsNil {x : Operand} {T : TypeId} {E : TypeId} {xs : List (List PV)} (hg : o.guard = none) (hd : o.dst = some t) (ht : decide (t < n) = true) (ho : o.op = .binOp .eql T x (.const (.slice none 0 0)) T) (hu : P.underlying T = some (.slice E)) (hx : val G env x = some (.c (.pv (.sl xs))))
    (hk : ∀ b : Bool, (b = true → xs = []) → OpsT P G ops l ⟨n, m, (t, [.c (.pv (.bool b))]) :: env, st⟩ K) : OpsT P G ops (o :: l) ⟨n, m, env, st⟩ K := by
  refine ops_cons hg (op_val hd fun En η J a w hr => ?_)
  have h1 := hr.val hx
  have hv : ∃ A len cap, a.eval x = .slice A len cap ∧ (A = none → xs = []) := by
    generalize a.eval x = v at h1
    cases h1 with
    | nil A cap => exact ⟨A, 0, cap, rfl, fun _ => rfl⟩
    | sl _ sz blk off cap us hne hJ hc h1 h2 h3 => exact ⟨_, _, _, rfl, fun h => by cases h⟩
  obtain ⟨A, len, cap, hA, hnil⟩ := hv
  have hc : a.eval (.const (.slice none 0 0)) = .slice none 0 0 := rfl
  have hq0 : ∀ (d : Nat) (b : Bool), (b = (match A with | none => true | some _ => false)) → (Op.equalIn (d + 1) T (.slice A len cap) (.slice none 0 0)).run P w = .ok b w := fun d b hb => by
    subst hb
    cases A <;> simp [Op.equalIn, run_underlying hu]
  have hq := hq0 9999
  cases A with
  | none => exact ⟨.bool true, w, η, J, _, [.c (.pv (.bool true))], by simp [execOp, ho, hA, hc, eqGuard, binOp, Op.equal, show Op.maxDepth = 9999 + 1 from rfl, hq true rfl], hr, of_decide_eq_true ht, Rd.bool true, hk true fun _ => hnil rfl⟩
  | some A => exact ⟨.bool false, w, η, J, _, [.c (.pv (.bool false))], by simp [execOp, ho, hA, hc, eqGuard, binOp, Op.equal, show Op.maxDepth = 9999 + 1 from rfl, hq false rfl], hr, of_decide_eq_true ht, Rd.bool false, hk false fun h => by cases h⟩
end
end Go.Proofs.YtaaihamelknhdaaGreatDoor.Abs
