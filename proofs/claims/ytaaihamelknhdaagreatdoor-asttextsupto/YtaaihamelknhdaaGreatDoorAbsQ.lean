/- Abstract states of the machine: arrays by functions of their places. -/
import Derived.Test.YtaaihamelknhdaaGreatDoorAbsP
namespace Go.Proofs.YtaaihamelknhdaaGreatDoor.Abs
open Go Go.RowKit
set_option linter.unusedVariables false
set_option linter.unusedSimpArgs false
section
variable {P : Program} {G : Nat → Option (List PV)} {ops : Array Oper} {o : Oper} {l : List Oper} {n m t : Nat} {env env' : List (Nat × List XV)} {st st' : Store} {K : Sx → Prop} {Q : Exit → Sx → Prop}

/-- An array's cells. -/
def ar {α : Type} (n : Nat) (f : Nat → List α) : List α := (List.range n).flatMap f
theorem ar_succ {α : Type} (n : Nat) (f : Nat → List α) : ar (n + 1) f = ar n f ++ f n := by
  unfold ar
  rw [List.range_succ, List.flatMap_append]
  simp
theorem ar_congr {α : Type} {n : Nat} {f g : Nat → List α} (h : ∀ i, i < n → f i = g i) : ar n f = ar n g := by
  induction n with
  | zero => rfl
  | succ n ih => rw [ar_succ, ar_succ, ih (fun i hi => h i (by omega)), h n (by omega)]
theorem ar_len {α : Type} {n sz : Nat} {f : Nat → List α} (hf : ∀ i, (f i).length = sz) : (ar n f).length = n * sz := by
  induction n with
  | zero => simp [ar]
  | succ n ih => rw [ar_succ, List.length_append, ih, hf, Nat.succ_mul]
theorem ar_map {α β : Type} {n : Nat} {f : Nat → List α} (g : α → β) : (ar n f).map g = ar n fun i => (f i).map g := by
  induction n with
  | zero => rfl
  | succ n ih => rw [ar_succ, ar_succ, List.map_append, ih]
theorem ar_drop {α : Type} {n sz k : Nat} {f : Nat → List α} (hf : ∀ i, (f i).length = sz) (hk : k < n) (r : Nat) (hr : r ≤ sz) (q : List α) : ∃ z, (ar n f ++ q).drop (k * sz + r) = (f k).drop r ++ z := by
  induction n generalizing q with
  | zero => omega
  | succ n ih =>
    rw [ar_succ, List.append_assoc]
    by_cases e : k = n
    · subst e
      rw [List.drop_append, ar_len hf, show k * sz + r - k * sz = r by omega, List.drop_eq_nil_of_le (by rw [ar_len hf]; omega), List.nil_append, List.drop_append]
      have : r - (f k).length = 0 := by rw [hf]; omega
      rw [this]
      exact ⟨_, rfl⟩
    · exact ih (by omega) _
theorem getElem?_drop0 {α : Type} (l : List α) (i : Nat) : l[i]? = (l.drop i)[0]? := by rw [List.getElem?_drop]; rfl
theorem ar_get {α : Type} {n sz k r : Nat} {f : Nat → List α} (hf : ∀ i, (f i).length = sz) (hk : k < n) (hr : r < sz) (q : List α) : (ar n f ++ q)[k * sz + r]? = (f k)[r]? := by
  rw [getElem?_drop0]
  obtain ⟨z, hz⟩ := ar_drop hf hk r (by omega) q
  rw [hz, List.getElem?_append_left (by rw [List.length_drop, hf]; omega), List.getElem?_drop]
  rfl
theorem ar_set {α : Type} {n sz k r : Nat} {f : Nat → List α} {y : α} (hf : ∀ i, (f i).length = sz) (hk : k < n) (hr : r < sz) : (ar n f).set (k * sz + r) y = ar n fun i => if i = k then (f k).set r y else f i := by
  induction n with
  | zero => omega
  | succ n ih =>
    rw [ar_succ, ar_succ]
    by_cases e : k = n
    · subst e
      rw [List.set_append_right _ _ (by rw [ar_len hf]; omega), ar_len hf, if_pos rfl, show k * sz + r - k * sz = r by omega]
      congr 1
      exact ar_congr fun i hi => by rw [if_neg (by omega)]
    · have hlt : k * sz + r < n * sz := by
        have : (k + 1) * sz ≤ n * sz := Nat.mul_le_mul_right sz (by omega)
        rw [Nat.succ_mul] at this; omega
      rw [List.set_append_left _ _ (by rw [ar_len hf]; exact hlt), ih (by omega), if_neg (Ne.symm e)]
/-- A function that is turned at a place. -/
def upd {α : Type} (D : Nat → α) (k : Nat) (x : α) : Nat → α := fun i => if i = k then x else D i
def upd2 {α : Type} (D : Nat → Nat → α) (k l : Nat) (x : α) : Nat → Nat → α := upd D k (upd (D k) l x)
theorem upd_at {α : Type} {D : Nat → α} {k : Nat} {x : α} : upd D k x k = x := by unfold upd; rw [if_pos rfl]
theorem upd_ne {α : Type} {D : Nat → α} {k i : Nat} {x : α} (h : i ≠ k) : upd D k x i = D i := by unfold upd; rw [if_neg h]
theorem upd2_eq {α : Type} (D : Nat → Nat → α) (k l : Nat) (x : α) (i j : Nat) : upd2 D k l x i j = if i = k ∧ j = l then x else D i j := by
  unfold upd2 upd
  by_cases h : i = k
  · subst h; rw [if_pos rfl]
    by_cases h' : j = l
    · rw [if_pos h', if_pos ⟨rfl, h'⟩]
    · rw [if_neg h', if_neg (fun c => h' c.2)]
  · rw [if_neg h, if_neg (fun c => h c.1)]
theorem inA_lt {len k : Nat} {i : Int} (h : inA len i = some k) : k < len := by
  obtain ⟨h0, h1, rfl⟩ := inAE h; omega

/-! ### An array's cells at places that are reckoned -/
section arrays
variable {α : Type} {e : α → PV} {len : Nat} {D : Nat → α} {D2 : Nat → Nat → α} {n1 n2 k k1 k2 : Nat}
theorem a1_get (pre post : List PV) (hk : k < len) : ((pre ++ (ar len (fun i => [e (D i)]) ++ post)).map BV.pv)[pre.length + k * 1]? = some (.pv (e (D k))) := by
  rw [List.getElem?_map, List.getElem?_append_right (by omega), show pre.length + k * 1 - pre.length = k * 1 + 0 by omega, ar_get (sz := 1) (fun _ => rfl) hk (by omega)]
  rfl
theorem a1_set (pre post : List PV) (x : α) (hk : k < len) : ((pre ++ (ar len (fun i => [e (D i)]) ++ post)).map BV.pv).set (pre.length + k * 1) (.pv (e x)) = (pre ++ (ar len (fun i => [e (upd D k x i)]) ++ post)).map BV.pv := by
  rw [← List.map_set, List.set_append_right _ _ (by omega), show pre.length + k * 1 - pre.length = k * 1 + 0 by omega, List.set_append_left _ _ (by rw [ar_len (sz := 1) (fun _ => rfl)]; omega), ar_set (sz := 1) (fun _ => rfl) hk (by omega)]
  congr 3
  refine ar_congr fun i hi => ?_
  unfold upd
  by_cases h : i = k
  · rw [if_pos h, if_pos h]; rfl
  · rw [if_neg h, if_neg h]
theorem in_len (i : Nat) : (ar n2 (fun j => [e (D2 i j)])).length = n2 := by rw [ar_len (sz := 1) (fun _ => rfl)]; omega
theorem a2_get (pre post : List PV) (h1 : k1 < n1) (h2 : k2 < n2) : ((pre ++ (ar n1 (fun i => ar n2 fun j => [e (D2 i j)]) ++ post)).map BV.pv)[pre.length + k1 * n2 + k2 * 1]? = some (.pv (e (D2 k1 k2))) := by
  rw [List.getElem?_map, List.getElem?_append_right (by omega), show pre.length + k1 * n2 + k2 * 1 - pre.length = k1 * n2 + k2 by omega, ar_get (sz := n2) (fun i => in_len i) h1 h2]
  have := ar_get (n := n2) (sz := 1) (k := k2) (r := 0) (f := fun j => [e (D2 k1 j)]) (fun _ => rfl) h2 (by omega) []
  rw [List.append_nil, show k2 * 1 + 0 = k2 by omega] at this
  rw [this]; rfl
theorem a2_set (pre post : List PV) (x : α) (h1 : k1 < n1) (h2 : k2 < n2) : ((pre ++ (ar n1 (fun i => ar n2 fun j => [e (D2 i j)]) ++ post)).map BV.pv).set (pre.length + k1 * n2 + k2 * 1) (.pv (e x)) = (pre ++ (ar n1 (fun i => ar n2 fun j => [e (upd2 D2 k1 k2 x i j)]) ++ post)).map BV.pv := by
  have hlt : k1 * n2 + k2 < n1 * n2 := by
    have : (k1 + 1) * n2 ≤ n1 * n2 := Nat.mul_le_mul_right n2 (by omega)
    rw [Nat.succ_mul] at this; omega
  rw [← List.map_set, List.set_append_right _ _ (by omega), show pre.length + k1 * n2 + k2 * 1 - pre.length = k1 * n2 + k2 by omega, List.set_append_left _ _ (by rw [ar_len (fun i => in_len i)]; exact hlt), ar_set (sz := n2) (fun i => in_len i) h1 h2]
  congr 3
  refine ar_congr fun i hi => ?_
  by_cases h : i = k1
  · subst h
    rw [if_pos rfl]
    have := ar_set (n := n2) (sz := 1) (k := k2) (r := 0) (f := fun j => [e (D2 i j)]) (y := e x) (fun _ => rfl) h2 (by omega)
    rw [show k2 * 1 + 0 = k2 by omega] at this
    rw [this]
    refine ar_congr fun j hj => ?_
    rw [upd2_eq]
    by_cases h' : j = k2
    · rw [if_pos h', if_pos ⟨rfl, h'⟩]; rfl
    · rw [if_neg h', if_neg (fun c => h' c.2)]
  · rw [if_neg h]
    refine ar_congr fun j hj => ?_
    rw [upd2_eq, if_neg (fun c => h c.1)]
theorem a2_row (pre post : List PV) (h1 : k1 < n1) : (((pre ++ (ar n1 (fun i => ar n2 fun j => [e (D2 i j)]) ++ post)).map BV.pv).drop (pre.length + k1 * n2)).take n2 = (ar n2 fun j => [e (D2 k1 j)]).map BV.pv := by
  obtain ⟨z, hz⟩ := ar_drop (n := n1) (sz := n2) (k := k1) (f := fun i => ar n2 fun j => [e (D2 i j)]) (fun i => in_len i) h1 0 (by omega) post
  rw [← List.map_drop, ← List.map_take, List.drop_append, show pre.length + k1 * n2 - pre.length = k1 * n2 + 0 by omega, hz, List.drop_eq_nil_of_le (by omega), List.nil_append, List.drop_zero]
  congr 1
  rw [List.take_append_of_le_length (by rw [in_len]; omega), List.take_of_length_le (by rw [in_len]; omega)]
end arrays
/-- An element's address, where the place is reckoned. -/
theorem ia_boxD {T E : TypeId} {x ix : Operand} {k : IntKind} {i : Int} {b off len sz kk : Nat} {agg : Bool} (ho : o.op = .indexAddr T x ix) (hu : P.underlying T = some (.array len E)) (hT : Ty P E agg sz)
    (hx : val G env x = some (.c (.box b off))) (hi : val G env ix = some (.c (.pv (.int k i)))) (h : inA len i = some kk) : LtT P G o ⟨n, m, env, st⟩ [.c (.box b (off + kk * sz))] := by
  obtain ⟨h0, h1, rfl⟩ := inAE h
  exact lt_ia_boxArr ho hu hT hx hi h0 h1
/-- A store, what is behind it told. -/
theorem SD {T T0 : TypeId} {x y : Operand} {b off sz : Nat} {agg : Bool} {v : XV} {cs ys : List BV} (cs' : List BV) (hg : o.guard = none) (hd : o.dst = none) (ho : o.op = .store T x y) (hT : Ty P T agg sz) (hz : sz ≠ 0)
    (hx : val G env x = some (.c (.box b off))) (hb : st[b]? = some (some (.box true T0 cs))) (hy : val G env y = some v) (hc : v.cells = some ys) (hl : ys.length = sz) (hfit : off + ys.length ≤ cs.length)
    (he : putAt cs off ys = cs') (hs : st.set b (some (.box true T0 cs')) = st') (hk : OpsT P G ops l ⟨n, m, env, st'⟩ K) : OpsT P G ops (o :: l) ⟨n, m, env, st⟩ K :=
  ops_cons hg (op_store (s := ⟨n, m, env, st⟩) hd ho hT hx hb hy hc hl hfit he (by rw [hs]; exact hk))
end
end Go.Proofs.YtaaihamelknhdaaGreatDoor.Abs
