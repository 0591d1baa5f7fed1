/- Abstract states of the machine: a drawn region, as a printed walk goes over it. -/
import Derived.Test.YtaaihamelknhdaaGreatDoorAbsJ
namespace Go.Proofs.YtaaihamelknhdaaGreatDoor.Abs
open Go Go.RowKit
set_option linter.unusedVariables false
set_option linter.unusedSimpArgs false
section
variable {P : Program} {G : Nat → Option (List PV)} {ops : Array Oper} {o : Oper} {n m : Nat} {env0 : List (Nat × List XV)} {T : List Ent} {st st' : Store} {K : Sx → Prop}

theorem val_mono {env env' : List (Nat × List XV)} (h : ∀ u xs, lk env u = some xs → lk env' u = some xs) {x : Operand} {y : XV} (hx : val G env x = some y) : val G env' x = some y := by
  cases x with
  | tmp t =>
    simp only [val] at hx ⊢
    cases hl : lk env t with
    | none => rw [hl] at hx; cases hx
    | some ys => rw [hl] at hx; rw [h t ys hl]; exact hx
  | _ => exact hx
/-- An operation that only looks, or calls what changes nothing; what it comes to is shown where it is owed. -/
theorem dl {t : Nat} (i : Nat) (x : List XV) (hf : T.all (fun f => !(f.i == i)) = true) (h : DrT P G ops n m env0 (⟨i, some t, x, .light⟩ :: T) st K) : DrT P G ops n m env0 T st K :=
  d_add (e := ⟨i, some t, x, .light⟩) hf (fun _ _ h => by cases h) (fun h => by cases h) h
theorem ds {t : Nat} (i : Nat) (hf : T.all (fun f => !(f.i == i)) = true) (h : DrT P G ops n m env0 (⟨i, some t, [.u], .skip⟩ :: T) st K) : DrT P G ops n m env0 T st K :=
  d_add (e := ⟨i, some t, [.u], .skip⟩) hf (fun _ _ h => by cases h) (fun h => by cases h) h
theorem ds0 {t : Nat} (i : Nat) (hf : T.all (fun f => !(f.i == i)) = true) (h : DrT P G ops n m env0 (⟨i, some t, [], .skip⟩ :: T) st K) : DrT P G ops n m env0 T st K :=
  d_add (e := ⟨i, some t, [], .skip⟩) hf (fun _ _ h => by cases h) (fun h => by cases h) h
theorem db {t : Nat} (i b : Nat) (x : List XV) (ob : Obj') (hf : T.all (fun f => !(f.i == i)) = true) (hb : st.length = b) (hs : st ++ [some ob] = st') (h : DrT P G ops n m env0 (⟨i, some t, x, .birth b ob⟩ :: T) st' K) : DrT P G ops n m env0 T st K := by
  subst hb; subst hs
  intro lst hg E η J a w hr hu Q' fuel hK hfu
  have hoff := fresh_off hf hg
  have hdb : ¬ η.d st.length := fun hd' => by
    have := hr.ok.len _ hd'
    simp only [killT_len] at this
    omega
  refine h lst ⟨hg.size, fun j hj => ?_, fun f hf' hfk => ?_, hg.closed⟩ E η J a w ?_ (fun f hf' b o hfk => ?_) Q' fuel hK hfu
  · obtain ⟨f, hf', h1⟩ := hg.sub j hj; exact ⟨f, List.mem_cons_of_mem _ hf', h1⟩
  · rcases List.mem_cons.1 hf' with rfl | hf'
    · cases hfk
    · exact hg.heavy f hf' hfk
  · have e1 : envT (onL lst) env0 (⟨i, some t, x, .birth st.length ob⟩ :: T) = envT (onL lst) env0 T := by simp only [envT, hoff, Bool.false_eq_true, if_false]
    have look : ∀ (c : Nat) (o' : Obj'), (killT (onL lst) (⟨i, some t, x, .birth st.length ob⟩ :: T) (st ++ [some ob]))[c]? = some (some o') → (killT (onL lst) T st)[c]? = some (some o') := fun c o' hc => by
      rw [killT_at] at hc
      split at hc
      · split at hc
        · injection hc with hc; cases hc
        · cases hc
      · rename_i hany
        simp only [List.any_cons, Bool.or_eq_true, not_or] at hany
        rw [killT_at, if_neg (by simpa using hany.2)]
        rcases (append_at st ob c o').1 hc with ⟨rfl, _⟩ | ⟨_, h1⟩
        · exact absurd (by simp [unbornAt, hoff]) hany.1
        · exact h1
    have hl : (killT (onL lst) T st).length ≤ (killT (onL lst) (⟨i, some t, x, .birth st.length ob⟩ :: T) (st ++ [some ob])).length := by rw [killT_len, killT_len]; simp
    rw [e1]
    exact ⟨hr.size, hr.m, hr.defers, hr.env, ⟨fun c hc => Nat.lt_of_lt_of_le (hr.ok.len c hc) hl, hr.ok.jlt, fun c o hc => hr.ok.obj c o (look c o hc), fun c d o1 o2 k hc hd => hr.ok.dis c d o1 o2 k (look c o1 hc) (look d o2 hd), fun c o k hc => hr.ok.jd c o k (look c o hc), hr.ok.glob⟩,
      ⟨hr.ex.jj, hr.ex.os, hr.ex.tape, hr.ex.output, hr.ex.size, hr.ex.keep, hr.ex.jn, Nat.le_trans hr.ex.len hl, fun c o k hc => hr.ex.own c o k (look c o hc), fun c o hl' hc => hr.ex.hdr c o hl' (look c o hc)⟩⟩
  · rcases List.mem_cons.1 hf' with rfl | hf'
    · injection hfk with h1 h2; subst h1; exact fun _ => hdb
    · exact hu f hf' b o hfk
/-- What is owed of the one, and of the elder ones. -/
theorem ow {W : List (List Bool)} {A T' : List Ent} {e : Ent} (h : if forced W T e || isHeavy e then True else FloatOk P G ops W n m env0 st A e T') (h' : Owed P G ops W n m env0 st T (A ++ [e]) T') : Owed P G ops W n m env0 st T A (e :: T') := ⟨h, h'⟩
theorem fo_l {W : List (List Bool)} {A T' : List Ent} {i t : Nat} {x : List XV} (ks : List Nat) (ho : ops[i]? = some o) (hd : o.dst = some t) (ht : decide (t < n) = true) (hA : apartA W (names ops i) i A = true) (hB : apartB W (names ops i) i T' = true) (hb : bornB W ks i (A ++ ⟨i, some t, x, .light⟩ :: T') = true)
    (hg : GuardIs ops o (restr (names ops i) (envT All env0 T')) true) (hl : FlT P G o ⟨n, m, restr (names ops i) (envT All env0 T'), kill ks st⟩ x) : FloatOk P G ops W n m env0 st A ⟨i, some t, x, .light⟩ T' :=
  ⟨o, t, ks, ho, hd, rfl, by simpa using ht, hA, hB, hb, hg, hl⟩
theorem fo_s {W : List (List Bool)} {A T' : List Ent} {i t : Nat} (ks : List Nat) (ho : ops[i]? = some o) (hd : o.dst = some t) (ht : decide (t < n) = true) (hA : apartA W (names ops i) i A = true) (hB : apartB W (names ops i) i T' = true) (hb : bornB W ks i (A ++ ⟨i, some t, [.u], .skip⟩ :: T') = true)
    (hg : GuardIs ops o (restr (names ops i) (envT All env0 T')) false) : FloatOk P G ops W n m env0 st A ⟨i, some t, [.u], .skip⟩ T' :=
  ⟨o, t, ks, ho, hd, rfl, by simpa using ht, hA, hB, hb, hg, .inl rfl⟩
theorem fo_s0 {W : List (List Bool)} {A T' : List Ent} {i t : Nat} (ks : List Nat) (ho : ops[i]? = some o) (hd : o.dst = some t) (ht : decide (t < n) = true) (hA : apartA W (names ops i) i A = true) (hB : apartB W (names ops i) i T' = true) (hb : bornB W ks i (A ++ ⟨i, some t, [], .skip⟩ :: T') = true)
    (hg : GuardIs ops o (restr (names ops i) (envT All env0 T')) false) : FloatOk P G ops W n m env0 st A ⟨i, some t, [], .skip⟩ T' :=
  ⟨o, t, ks, ho, hd, rfl, by simpa using ht, hA, hB, hb, hg, .inr rfl⟩
theorem fo_b {W : List (List Bool)} {A T' : List Ent} {i t b : Nat} {x : List XV} {ob : Obj'} (ks : List Nat) (ho : ops[i]? = some o) (hd : o.dst = some t) (ht : decide (t < n) = true) (hA : apartA W (names ops i) i A = true) (hB : apartB W (names ops i) i T' = true) (hb : bornB W ks i (A ++ ⟨i, some t, x, .birth b ob⟩ :: T') = true)
    (hg : GuardIs ops o (restr (names ops i) (envT All env0 T')) true) (hl : BirT P G o ⟨n, m, restr (names ops i) (envT All env0 T'), kill ks st⟩ b ob x) (hs : st[b]? = some (some ob)) (hu : (A ++ T').all (fun f => match f.k with | .birth c _ => !(c == b) | _ => true) = true) :
    FloatOk P G ops W n m env0 st A ⟨i, some t, x, .birth b ob⟩ T' :=
  ⟨o, t, ks, ho, hd, rfl, by simpa using ht, hA, hB, hb, hg, bir_f hl, hs, hu⟩
theorem gi0 {env : List (Nat × List XV)} (h : o.guard = none) : GuardIs ops o env true := by unfold GuardIs; rw [h]
theorem gi1 {env : List (Nat × List XV)} {j d : Nat} {want b on : Bool} (h : o.guard = some (j, want)) (hj : (ops[j]?).bind (·.dst) = some d) (hb : lk env d = some [.c (.pv (.bool b))]) (hw : (b == want) = on) : GuardIs ops o env on := by
  unfold GuardIs; rw [h]; exact ⟨d, hj, .inl ⟨b, hb, hw.symm⟩⟩
/-- The guard was passed over itself. -/
theorem giU {env : List (Nat × List XV)} {j d : Nat} {want : Bool} (h : o.guard = some (j, want)) (hj : (ops[j]?).bind (·.dst) = some d) (hb : lk env d = some []) : GuardIs ops o env false := by
  unfold GuardIs; rw [h]; exact ⟨d, hj, .inr ⟨hb, rfl⟩⟩
/-- A store into a box. -/
theorem d_store {TT T0 : TypeId} {x y : Operand} {b off sz : Nat} {agg : Bool} {v : XV} {cs ys cs' : List BV} (W : List (List Bool)) (h : Nat) (ho : ops[h]? = some o) (hW : wOk ops W = true) (hT : okT ops m T = true) (hr : Region.ready .any ops (arrOf ops T) = [h]) (hn : apartB W (names ops h) h T = true) (hb : bornB W [] h T = true)
    (hgd : GuardIs ops o (restr (names ops h) (envT All env0 T)) true) (hV : Owed P G ops W n m env0 st T [] T)
    (hd : o.dst = none) (hop : o.op = .store TT x y) (hTT : Ty P TT agg sz) (hx : val G (restr (names ops h) (envT All env0 T)) x = some (.c (.box b off))) (hbx : st[b]? = some (some (.box true T0 cs))) (hy : val G (restr (names ops h) (envT All env0 T)) y = some v) (hc : v.cells = some ys) (hl : ys.length = sz) (hfit : decide (off + ys.length ≤ cs.length) = true)
    (he : putAt cs off ys = cs') (hs : st.set b (some (.box true T0 cs')) = st') (hk : DrT P G ops n m env0 (⟨h, none, [], .heavy⟩ :: T) st' K) : DrT P G ops n m env0 T st K := by
  subst hs
  refine d_heavy W h ho hW hT hr hn hb hgd hV (t := none) (fun x f s' => x = [] ∧ f = id ∧ s' = st.set b (some (.box true T0 cs'))) (fun env henv => ?_) (fun x f s' hD => ?_)
  · exact op_store (s := ⟨n, m, env, st⟩) hd hop hTT (val_mono henv hx) hbx (val_mono henv hy) hc hl (by simpa using hfit) he ⟨[], id, _, ⟨rfl, rfl, rfl⟩, by rw [mapEnv_id]; rfl⟩
  · obtain ⟨rfl, rfl, rfl⟩ := hD
    rw [mapEnv_id]
    have : mapT id T = T := by
      unfold mapT
      have : (fun (e : Ent) => (⟨e.i, e.t, e.x.map (XV.map id), e.k⟩ : Ent)) = id := by
        funext e
        have e1 : XV.map id = id := funext XV.map_id
        simp [e1]
      rw [this, List.map_id]
    rw [this]
    exact hk
theorem d_storeR {TT E : TypeId} {x y : Operand} {b i off sz sz' : Nat} {agg ch : Bool} {xs : List (List PV)} {e ps : List PV} {v : XV} {ys : List BV} (W : List (List Bool)) (h : Nat) (ho : ops[h]? = some o) (hW : wOk ops W = true) (hT : okT ops m T = true) (hr : Region.ready .any ops (arrOf ops T) = [h]) (hn : apartB W (names ops h) h T = true) (hb : bornB W [] h T = true)
    (hgd : GuardIs ops o (restr (names ops h) (envT All env0 T)) true) (hV : Owed P G ops W n m env0 st T [] T)
    (hd : o.dst = none) (hop : o.op = .store TT x y) (hTT : Ty P TT agg sz') (hx : val G (restr (names ops h) (envT All env0 T)) x = some (.c (.rp b sz i off))) (hbx : st[b]? = some (some (.row true ch E sz xs))) (he : xs[i]? = some e) (hy : val G (restr (names ops h) (envT All env0 T)) y = some v) (hc : v.cells = some ys) (hp : toPVs ys = some ps) (hl : ps.length = sz') (hfit : decide (off + ps.length ≤ sz) = true)
    (hs : st.set b (some (.row true ch E sz (xs.set i (putP e off ps)))) = st') (hk : DrT P G ops n m env0 (⟨h, none, [], .heavy⟩ :: T) st' K) : DrT P G ops n m env0 T st K := by
  subst hs
  refine d_heavy W h ho hW hT hr hn hb hgd hV (t := none) (fun x f s' => x = [] ∧ f = id ∧ s' = st.set b (some (.row true ch E sz (xs.set i (putP e off ps))))) (fun env henv => ?_) (fun x f s' hD => ?_)
  · exact op_storeR (s := ⟨n, m, env, st⟩) hd hop hTT (val_mono henv hx) hbx he (val_mono henv hy) hc hp hl (by simpa using hfit) ⟨[], id, _, ⟨rfl, rfl, rfl⟩, by rw [mapEnv_id]; rfl⟩
  · obtain ⟨rfl, rfl, rfl⟩ := hD
    rw [mapEnv_id]
    have : mapT id T = T := by
      unfold mapT
      have : (fun (e : Ent) => (⟨e.i, e.t, e.x.map (XV.map id), e.k⟩ : Ent)) = id := by
        funext e
        have e1 : XV.map id = id := funext XV.map_id
        simp [e1]
      rw [this, List.map_id]
    rw [this]
    exact hk
theorem src_mono {env env' : List (Nat × List XV)} {x : XV} {xs : List (List PV)} (h : Src ⟨n, m, env, st⟩ x xs) : Src ⟨n, m, env', st⟩ x xs := by
  cases h with
  | sl xs => exact .sl xs
  | emp => exact .emp
  | row b m ch E sz xs h => exact .row b m ch E sz xs h
theorem d_append {t : Nat} {TT E : TypeId} {x y : Operand} {b sz bytes : Nat} {ch : Bool} {yv : XV} {xs ys : List (List PV)} {env1 : List (Nat × List XV)} {T1 : List Ent} (W : List (List Bool)) (h : Nat) (ho : ops[h]? = some o) (hW : wOk ops W = true) (hT : okT ops m T = true) (hr : Region.ready .any ops (arrOf ops T) = [h]) (hn : apartB W (names ops h) h T = true) (hb : bornB W [] h T = true)
    (hgd : GuardIs ops o (restr (names ops h) (envT All env0 T)) true) (hV : Owed P G ops W n m env0 st T [] T)
    (hd : o.dst = some t) (ht : decide (t < n) = true) (hop : o.op = .call { callee := .builtin .append, args := #[x, y], argTypes := #[TT, TT] }) (hu : P.underlying TT = some (.slice E)) (hE : TyE P E sz bytes) (hb0 : 0 < bytes)
    (hx : val G (restr (names ops h) (envT All env0 T)) x = some (.c (.row b))) (hbx : st[b]? = some (some (.row true ch E sz xs))) (hy : val G (restr (names ops h) (envT All env0 T)) y = some yv) (hsrc : Src ⟨n, m, [], st⟩ yv ys) (hsz : rows sz ys = true) (hbytes : (xs.length + ys.length) * bytes ≤ 140737488355328)
    (he1 : mapEnv (prg b) env0 = env1) (hT1 : mapT (prg b) T = T1) (hs : (mapSt (prg b) st).set b (some (.row true true E sz (xs ++ ys))) = st') (hk : DrT P G ops n m env1 (⟨h, some t, [.c (.row b)], .heavy⟩ :: T1) st' K) : DrT P G ops n m env0 T st K := by
  subst hs; subst he1; subst hT1
  refine d_heavy W h ho hW hT hr hn hb hgd hV (t := some t) (fun x f s' => x = [.c (.row b)] ∧ f = prg b ∧ s' = (mapSt (prg b) st).set b (some (.row true true E sz (xs ++ ys)))) (fun env henv => ?_) (fun x f s' hD => ?_)
  · exact op_append (s := ⟨n, m, env, st⟩) hd ht hop hu hE hb0 (val_mono henv hx) hbx (val_mono henv hy) (src_mono hsrc) (rows_len hsz) hbytes ⟨_, _, _, ⟨rfl, rfl, rfl⟩, rfl⟩
  · obtain ⟨rfl, rfl, rfl⟩ := hD
    exact hk
end
end Go.Proofs.YtaaihamelknhdaaGreatDoor.Abs
