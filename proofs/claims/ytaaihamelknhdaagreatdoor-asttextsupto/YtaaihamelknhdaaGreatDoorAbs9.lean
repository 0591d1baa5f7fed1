/- Abstract states of the machine: the rules of calls, guards, slices that are made. -/
import Derived.Test.YtaaihamelknhdaaGreatDoorAbs8
namespace Go.Proofs.YtaaihamelknhdaaGreatDoor.Abs
open Go Go.RowKit
set_option linter.unusedVariables false
set_option linter.unusedSimpArgs false
section
variable {P : Program} {G : Nat → Option (List PV)}

def vals (G : Nat → Option (List PV)) (env : List (Nat × List XV)) : List Operand → Option (List XV)
  | [] => some []
  | x :: xs => match val G env x, vals G env xs with
    | some y, some ys => some (y :: ys)
    | _, _ => none
theorem Rel.vals {E : En} {η : Hd} {J : Nat → Prop} {s : Sx} {a : Act} {w : World} (h : Rel G E η J s a w) : ∀ {xs : List Operand} {ys : List XV}, vals G s.env xs = some ys → L2 (XVr η J w) ys (xs.map a.eval)
  | [], ys, hx => by injection hx with hx; subst hx; exact L2.nil
  | x :: xs, ys, hx => by
    simp only [Abs.vals] at hx
    split at hx
    · rename_i y ys' h1 h2
      injection hx with hx; subst hx
      exact L2.cons (h.val h1) (h.vals h2)
    · cases hx
theorem L2.xmap {η η' : Hd} {J J' : Nat → Prop} {w w' : World} {f : BV → BV} (hf : ∀ x v, BVr η J w x v → BVr η' J' w' (f x) v) {xs : List XV} {vs : List Value} (h : L2 (XVr η J w) xs vs) : L2 (XVr η' J' w') (xs.map (XV.map f)) vs :=
  h.map _ (fun _ _ => XVr.map hf)
/-- The state behind a call. -/
def behind (s : Sx) (t : Nat) (ids ro : List Nat) (r : List XV) (st' : Store) : Sx :=
  ⟨s.n, s.m, (t, r.map (XV.map (unl ids s.st.length))) :: mapEnv (pur ids st') s.env, merge ids ro s.st st'⟩
theorem op_enter {o : Oper} {s : Sx} {K : Sx → Prop} {t : Nat} {f : FuncId} {ids ro : List Nat} {argsX argsL : List XV} {stL : Store} {Q : List XV → Store → Prop} (hd : o.dst = some t) (ht : decide (t < s.n) = true)
    (hrun : ∀ E η J a w, Rel G E η J s a w → ∃ vs : List Value, (execOp a.eval o).run P w = .ok (.enter f vs.toArray) w ∧ L2 (XVr η J w) argsX vs)
    (hn : (decide ids.Nodup && ids.all (fun b => decide (b < s.st.length))) = true) (hargs : argsX.map (XV.map (loc ids)) = argsL) (hst : locS ids ro s.st = stL) (hM : Meets P G f argsL stL Q)
    (hk : ∀ r st', Q r st' → K (behind s t ids ro r st')) : OpT P G o s K := by
  intro E η J a w hr K' Q' hK
  simp only [Bool.and_eq_true, decide_eq_true_eq, List.all_eq_true] at hn
  obtain ⟨vs, hrun, hl⟩ := hrun E η J a w hr
  unfold Oper.wp
  rw [hrun, Oper.upon_enter, hd]
  subst hst; subst hargs
  refine (hM (locH η ids) J w vs (locS_ok ro hr.ok hn.1) (hl.xmap (fun _ _ => loc_sound))).mono ?_
  rintro e w' ⟨v, η', J', r, st', rfl, hQ, hR, hok, hex⟩
  obtain ⟨h1, h2⟩ := merge_sound hr hn.1 (fun b hb => hn.2 b hb) hok hex
  exact hK _ _ _ J' _ (hk r st' hQ) (h1.put (by simpa using ht) (hR.map h2))
theorem op_call {o : Oper} {s : Sx} {K : Sx → Prop} {t : Nat} {f : FuncId} {xs : Array Operand} {ts : Array TypeId} {argsX argsL : List XV} {stL : Store} {Q : List XV → Store → Prop} (ids ro : List Nat) (hd : o.dst = some t) (ht : decide (t < s.n) = true)
    (ho : o.op = .call { callee := .value (.func f), args := xs, argTypes := ts }) (hcall : ∀ (args : Array Value) (w : World), (callFunc f args).run P w = .ok (.enter f args) w) (ha : vals G s.env xs.toList = some argsX)
    (hn : (decide ids.Nodup && ids.all (fun b => decide (b < s.st.length))) = true) (hargs : argsX.map (XV.map (loc ids)) = argsL) (hst : locS ids ro s.st = stL) (hM : Meets P G f argsL stL Q)
    (hk : ∀ r st', Q r st' → K (behind s t ids ro r st')) : OpT P G o s K :=
  op_enter hd ht (fun E η J a w hr => ⟨xs.toList.map a.eval, by
    have e : #[] ++ xs.map a.eval ++ #[] = (xs.toList.map a.eval).toArray := by apply Array.ext'; simp
    simp only [execOp, ho, resolve, Act.eval, Deferred.ofValue, invoke, Sem.run_bind, Sem.run_pure, Result.andThen_ok, hcall]
    rw [show #[] ++ xs.map a.eval ++ #[] = (xs.toList.map a.eval).toArray from e], hr.vals ha⟩) hn hargs hst hM hk
/-- A call of a function value: a closure, a method's value, or a function. -/
theorem op_callFn {o : Oper} {s : Sx} {K : Sx → Prop} {t : Nat} {g : Operand} {f : FuncId} {first caps : List BV} {xs : Array Operand} {ts : Array TypeId} {argsX argsL : List XV} {stL : Store} {Q : List XV → Store → Prop} (ids ro : List Nat) (hd : o.dst = some t) (ht : decide (t < s.n) = true)
    (ho : o.op = .call { callee := .value g, args := xs, argTypes := ts }) (hg : val G s.env g = some (.fn (.func f) first caps)) (hcall : ∀ (args : Array Value) (w : World), (callFunc f args).run P w = .ok (.enter f args) w) (ha : vals G s.env xs.toList = some argsX)
    (hn : (decide ids.Nodup && ids.all (fun b => decide (b < s.st.length))) = true) (hargs : (first.map XV.c ++ argsX ++ caps.map XV.c).map (XV.map (loc ids)) = argsL) (hst : locS ids ro s.st = stL) (hM : Meets P G f argsL stL Q)
    (hk : ∀ r st', Q r st' → K (behind s t ids ro r st')) : OpT P G o s K :=
  op_enter hd ht (fun E η J a w hr => by
    obtain ⟨fs, cs, h1, h2, h3⟩ := hr.val hg
    have lift : ∀ (l : List BV) (us : List Value), L2 (BVr η J w) l us → L2 (XVr η J w) (l.map XV.c) us := fun l us h => ⟨by simpa using h.len, fun i x y hx hy => by
      rw [List.getElem?_map] at hx
      cases hi : l[i]? with
      | none => rw [hi] at hx; cases hx
      | some z => rw [hi] at hx; injection hx with hx; subst hx; exact h.at_ i z y hi hy⟩
    refine ⟨fs ++ xs.toList.map a.eval ++ cs, ?_, ((lift _ _ h2).append (hr.vals ha)).append (lift _ _ h3)⟩
    have e : (fs.toArray ++ xs.map a.eval ++ cs.toArray) = (fs ++ xs.toList.map a.eval ++ cs).toArray := by
      apply Array.ext'; simp
    simp only [execOp, ho, resolve, h1, Deferred.ofValue, invoke]
    simp only [Sem.run_bind, Sem.run_pure, Result.andThen_ok, hcall, e]) hn hargs hst hM hk

/-! ### Guards -/
theorem ops_guard {ops : Array Oper} {o : Oper} {l : List Oper} {s : Sx} {K : Sx → Prop} {j d t : Nat} {want b : Bool} (hg : o.guard = some (j, want)) (hj : (ops[j]?).bind (·.dst) = some d) (hb : lk s.env d = some [.c (.pv (.bool b))]) (hd : o.dst = some t) (ht : decide (t < s.n) = true)
    (h1 : b = want → OpT P G o s (fun s' => OpsT P G ops l s' K)) (h2 : b = !want → OpsT P G ops l ⟨s.n, s.m, (t, [.u]) :: s.env, s.st⟩ K) : OpsT P G ops (o :: l) s K := by
  intro E η J a w hr Q' hQ
  have hv : a.tmps.getD d undef = .bool b := rd_bool (hr.env d _ hb)
  have hy : yielded ops a.tmps j = some b := by
    unfold yielded
    rw [hj]
    simp only [Option.bind_some]
    rw [Array.getD_eq_getD_getElem?] at hv
    cases h : a.tmps[d]? with
    | none => rw [h] at hv; cases hv
    | some v => rw [h] at hv; simp only [Option.getD_some] at hv; subst hv; rfl
  refine wpList_step fun K' hK => ?_
  have hw : Region.wanted o (yielded ops a.tmps) = (b == want) := by unfold Region.wanted; rw [hg]; simp [hy]
  by_cases e : b = want
  · rw [if_pos (by rw [hw]; simp [e])]
    exact h1 e E η J a w hr K' Q' fun a' w' η' J' s' hO hr' => hK _ _ (hO E η' J' a' w' hr' Q' hQ)
  · rw [if_neg (by rw [hw]; simp [e]), hd]
    refine hK _ _ (h2 (by cases b <;> cases want <;> simp_all) E η J _ w (hr.putU (by simpa using ht) undef) Q' hQ)
theorem cond_ {c : Operand} {x y : Code} {s : Sx} {Q : Exit → Sx → Prop} {b : Bool} (hc : val G s.env c = some (.c (.pv (.bool b)))) (h1 : b = true → CodeT P G x s Q) (h2 : b = false → CodeT P G y s Q) : CodeT P G (.cond c x y) s Q := by
  intro E η J a w hr
  exact wp_cond_split (rd_bool (hr.val hc)) (fun e => h1 e E η J a w hr) (fun e => h2 e E η J a w hr)
theorem lt_pickT {o : Oper} {s : Sx} {c x y : Operand} {b : Bool} {r : XV} (ho : o.op = .pick c x y) (hc : val G s.env c = some (.c (.pv (.bool b)))) (hb : b = true) (hx : val G s.env x = some r) : LtT P G o s [r] :=
  lt_pick ho hc (fun _ => hx) (fun h => by rw [hb] at h; cases h)
theorem lt_pickF {o : Oper} {s : Sx} {c x y : Operand} {b : Bool} {r : XV} (ho : o.op = .pick c x y) (hc : val G s.env c = some (.c (.pv (.bool b)))) (hb : b = false) (hy : val G s.env y = some r) : LtT P G o s [r] :=
  lt_pick ho hc (fun h => by rw [hb] at h; cases h) (fun _ => hy)
end
end Go.Proofs.YtaaihamelknhdaaGreatDoor.Abs
