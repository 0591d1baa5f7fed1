/- Abstract states of the machine: rules for slices that are told by typed lists, and the answers that may not be. -/
import Derived.Test.YtaaihamelknhdaaGreatDoorAbsL
namespace Go.Proofs.YtaaihamelknhdaaGreatDoor.Abs
open Go Go.RowKit
set_option linter.unusedVariables false
set_option linter.unusedSimpArgs false
section
variable {P : Program} {G : Nat → Option (List PV)} {ops : Array Oper} {o : Oper} {l : List Oper} {n m t : Nat} {env env' : List (Nat × List XV)} {st st' : Store} {K : Sx → Prop} {Q : Exit → Sx → Prop}
variable {α : Type} {e : α → List PV}

theorem tf (b : Bool) : b = true ∨ b = false := by cases b <;> simp
theorem iT {c : Operand} {x y : Code} {s : Sx} {b : Bool} (hc : val G s.env c = some (.c (.pv (.bool b)))) (hb : b = true) (h : CodeT P G x s Q) : CodeT P G (.cond c x y) s Q := cond_ hc (fun _ => h) (fun e => by rw [hb] at e; cases e)
theorem iF {c : Operand} {x y : Code} {s : Sx} {b : Bool} (hc : val G s.env c = some (.c (.pv (.bool b)))) (hb : b = false) (h : CodeT P G y s Q) : CodeT P G (.cond c x y) s Q := cond_ hc (fun e => by rw [hb] at e; cases e) (fun _ => h)
theorem notT {b : Bool} (h : b = true) : (!b) = false := by rw [h]; rfl
theorem notF {b : Bool} (h : b = false) : (!b) = true := by rw [h]; rfl

theorem w_none {s : Sx} (b : Nat) (h : SetAt st b none st') (hw : Weak G ⟨n, m, env, st'⟩ s) : Weak G ⟨n, m, env, st⟩ s := by
  have := weak_none (G := G) (s := ⟨n, m, env, st⟩) b
  rw [h.eq] at this
  exact this.trans hw
/-- An array by its elements. -/
def arr {α : Type} (d : α) (L : List α) (i : Nat) : α := L.getD i d

/-! ### Partial operations -/
def app {α : Type} (B : Nat) (L M : List α) : Option (List α) := if (L.length + M.length) * B ≤ 140737488355328 then some (L ++ M) else none
theorem appE {B : Nat} {L M v : List α} (h : app B L M = some v) : (L.length + M.length) * B ≤ 140737488355328 ∧ v = L ++ M := by
  unfold app at h
  split at h
  · exact ⟨by assumption, (retE h).symm⟩
  · cases h
def scat (a b : ByteArray) : Option ByteArray := if a.size + b.size ≤ 9223372036854775807 then some (a ++ b) else none
theorem scatE {a b v : ByteArray} (h : scat a b = some v) : a.size + b.size ≤ 9223372036854775807 ∧ v = a ++ b := by
  unfold scat at h
  split at h
  · exact ⟨by assumption, (retE h).symm⟩
  · cases h
def quo (k : IntKind) (a b : Int) : Option Int := if b = 0 then none else some (k.wrap (a.tdiv b))
theorem quoE {k : IntKind} {a b v : Int} (h : quo k a b = some v) : b ≠ 0 ∧ v = k.wrap (a.tdiv b) := by
  unfold quo at h
  split at h
  · cases h
  · exact ⟨by assumption, (retE h).symm⟩
def rem (a b : Int) : Option Int := if b = 0 then none else some (a.tmod b)
theorem remE {a b v : Int} (h : rem a b = some v) : b ≠ 0 ∧ v = a.tmod b := by
  unfold rem at h
  split at h
  · cases h
  · exact ⟨by assumption, (retE h).symm⟩
def shl (k : IntKind) (a b : Int) : Option Int := if 0 ≤ b then some (k.wrap (a * 2 ^ min b.toNat k.bits)) else none
theorem shlE {k : IntKind} {a b v : Int} (h : shl k a b = some v) : 0 ≤ b ∧ v = k.wrap (a * 2 ^ min b.toNat k.bits) := by
  unfold shl at h
  split at h
  · exact ⟨by assumption, (retE h).symm⟩
  · cases h
def shr (k : IntKind) (a b : Int) : Option Int := if 0 ≤ b then some (a.fdiv (2 ^ min b.toNat k.bits)) else none
theorem shrE {k : IntKind} {a b v : Int} (h : shr k a b = some v) : 0 ≤ b ∧ v = a.fdiv (2 ^ min b.toNat k.bits) := by
  unfold shr at h
  split at h
  · exact ⟨by assumption, (retE h).symm⟩
  · cases h
def bidx (s : ByteArray) (i : Int) : Option Int := if 0 ≤ i then (s[i.toNat]?).map fun c => (c.toNat : Int) else none
theorem bidxE {s : ByteArray} {i v : Int} (h : bidx s i = some v) : 0 ≤ i ∧ ∃ c, s[i.toNat]? = some c ∧ v = (c.toNat : Int) := by
  unfold bidx at h
  split at h
  · cases hc : s[i.toNat]? with
    | none => rw [hc] at h; cases h
    | some c => rw [hc] at h; exact ⟨by assumption, c, rfl, (retE h).symm⟩
  · cases h
/-- A part: from l to r. -/
def ssub (s : ByteArray) (l r : Int) : Option ByteArray := if 0 ≤ l ∧ l ≤ r ∧ r ≤ s.size then some (s.extract l.toNat r.toNat) else none
theorem ssubE {s v : ByteArray} {l r : Int} (h : ssub s l r = some v) : (0 ≤ l ∧ l ≤ r ∧ r ≤ s.size) ∧ v = s.extract l.toNat r.toNat := by
  unfold ssub at h
  split at h
  · exact ⟨by assumption, (retE h).symm⟩
  · cases h
def lsub {α : Type} (L : List α) (l r : Int) : Option (List α) := if 0 ≤ l ∧ l ≤ r ∧ r ≤ L.length then some ((L.take r.toNat).drop l.toNat) else none
theorem lsubE {L v : List α} {l r : Int} (h : lsub L l r = some v) : (0 ≤ l ∧ l ≤ r ∧ r ≤ L.length) ∧ v = (L.take r.toNat).drop l.toNat := by
  unfold lsub at h
  split at h
  · exact ⟨by assumption, (retE h).symm⟩
  · cases h
/-- At a place of an array. -/
def inA (len : Nat) (i : Int) : Option Nat := if 0 ≤ i ∧ i < len then some i.toNat else none
theorem inAE {len k : Nat} {i : Int} (h : inA len i = some k) : 0 ≤ i ∧ i < len ∧ k = i.toNat := by
  unfold inA at h
  split at h
  · rename_i h1; exact ⟨h1.1, h1.2, (retE h).symm⟩
  · cases h
/-- One element otherwise. -/
def seti {α : Type} (L : List α) (i : Int) (x : α) : List α := L.set i.toNat x
/-! ### The rules -/
theorem ia_sl {T E : TypeId} {x ix : Operand} {k : IntKind} {i : Int} {sz : Nat} {agg : Bool} {L : List α} {y : α} (ho : o.op = .indexAddr T x ix) (hu : P.underlying T = some (.slice E)) (hT : Ty P E agg sz)
    (hx : val G env x = some (.c (.pv (.sl (L.map e))))) (hi : val G env ix = some (.c (.pv (.int k i)))) (h : idx L i = some y) (hl : (e y).length = sz) : LtT P G o ⟨n, m, env, st⟩ [.c (.ep (e y))] :=
  lt_ia_sl ho hu hT hx hi (idxE h).1 (idx_map e (idxE h).2) hl
theorem ia_row {T E T0 : TypeId} {x ix : Operand} {k : IntKind} {i : Int} {b sz : Nat} {agg mu ch : Bool} {L : List α} {y : α} (ho : o.op = .indexAddr T x ix) (hu : P.underlying T = some (.slice E)) (hT : Ty P E agg sz)
    (hx : val G env x = some (.c (.row b))) (hb : st[b]? = some (some (.row mu ch T0 sz (L.map e)))) (hi : val G env ix = some (.c (.pv (.int k i)))) (h : idx L i = some y) : LtT P G o ⟨n, m, env, st⟩ [.c (.rp b sz i.toNat 0)] :=
  lt_ia_row ho hu hT hx hb hi (idxE h).1 (by
    have := (List.getElem?_eq_some_iff.1 (idxE h).2).1
    have h0 := (idxE h).1
    rw [List.length_map]; omega)
theorem row_at {L : List α} {y : α} {i : Int} (h : idx L i = some y) : (L.map e)[i.toNat]? = some (e y) := idx_map e (idxE h).2
theorem ia_box {T E : TypeId} {x ix : Operand} {k : IntKind} {i : Int} {b off len sz : Nat} {agg : Bool} (ho : o.op = .indexAddr T x ix) (hu : P.underlying T = some (.array len E)) (hT : Ty P E agg sz)
    (hx : val G env x = some (.c (.box b off))) (hi : val G env ix = some (.c (.pv (.int k i)))) (h : decide (0 ≤ i ∧ i < len) = true) (off' : Nat) (ho' : off + i.toNat * sz = off') : LtT P G o ⟨n, m, env, st⟩ [.c (.box b off')] := by
  subst ho'
  simp only [decide_eq_true_eq] at h
  exact lt_ia_boxArr ho hu hT hx hi h.1 h.2
theorem len_sl {T E : TypeId} {x : Operand} {L : List α} (ho : o.op = .call { callee := .builtin .len, args := #[x], argTypes := #[T] }) (hu : P.underlying T = some (.slice E)) (hx : val G env x = some (.c (.pv (.sl (L.map e))))) : LtT P G o ⟨n, m, env, st⟩ [.c (.pv (.int .i64 L.length))] := by
  have := lt_len_sl (P := P) (G := G) (s := ⟨n, m, env, st⟩) ho hu hx
  rwa [List.length_map] at this
theorem len_row {T E T0 : TypeId} {x : Operand} {b sz : Nat} {mu ch : Bool} {L : List α} (ho : o.op = .call { callee := .builtin .len, args := #[x], argTypes := #[T] }) (hu : P.underlying T = some (.slice E)) (hx : val G env x = some (.c (.row b))) (hb : st[b]? = some (some (.row mu ch T0 sz (L.map e)))) :
    LtT P G o ⟨n, m, env, st⟩ [.c (.pv (.int .i64 L.length))] := by
  have := lt_len_row (P := P) (G := G) (s := ⟨n, m, env, st⟩) ho hu hx hb
  rwa [List.length_map] at this
theorem cat_ {T U : TypeId} {x y : Operand} {a b v : ByteArray} (ho : o.op = .binOp .add T x y U) (hx : val G env x = some (.c (.pv (.str a)))) (hy : val G env y = some (.c (.pv (.str b)))) (h : scat a b = some v) : LtT P G o ⟨n, m, env, st⟩ [.c (.pv (.str v))] := by
  rw [(scatE h).2]; exact lt_cat ho hx hy (scatE h).1
theorem quo_ {T U : TypeId} {x y : Operand} {k : IntKind} {a b v : Int} (ho : o.op = .binOp .quo T x y U) (hx : val G env x = some (.c (.pv (.int k a)))) (hy : val G env y = some (.c (.pv (.int k b)))) (h : quo k a b = some v) : LtT P G o ⟨n, m, env, st⟩ [.c (.pv (.int k v))] := by
  rw [(quoE h).2]; exact lt_quo ho hx hy (quoE h).1
theorem rem_ {T U : TypeId} {x y : Operand} {k : IntKind} {a b v : Int} (ho : o.op = .binOp .rem T x y U) (hx : val G env x = some (.c (.pv (.int k a)))) (hy : val G env y = some (.c (.pv (.int k b)))) (h : rem a b = some v) : LtT P G o ⟨n, m, env, st⟩ [.c (.pv (.int k v))] := by
  rw [(remE h).2]; exact lt_rem ho hx hy (remE h).1
theorem shl_ {T U : TypeId} {x y : Operand} {k k' : IntKind} {a b v : Int} (ho : o.op = .binOp .shl T x y U) (hx : val G env x = some (.c (.pv (.int k a)))) (hy : val G env y = some (.c (.pv (.int k' b)))) (h : shl k a b = some v) : LtT P G o ⟨n, m, env, st⟩ [.c (.pv (.int k v))] := by
  rw [(shlE h).2]; exact lt_shl ho hx hy (shlE h).1
theorem shr_ {T U : TypeId} {x y : Operand} {k k' : IntKind} {a b v : Int} (ho : o.op = .binOp .shr T x y U) (hx : val G env x = some (.c (.pv (.int k a)))) (hy : val G env y = some (.c (.pv (.int k' b)))) (h : shr k a b = some v) : LtT P G o ⟨n, m, env, st⟩ [.c (.pv (.int k v))] := by
  rw [(shrE h).2]; exact lt_shr ho hx hy (shrE h).1
theorem index_ {T : TypeId} {x ix : Operand} {k : IntKind} {i v : Int} {s : ByteArray} (ho : o.op = .index T x ix) (hu : P.underlying T = some .string) (hx : val G env x = some (.c (.pv (.str s)))) (hi : val G env ix = some (.c (.pv (.int k i)))) (h : bidx s i = some v) :
    LtT P G o ⟨n, m, env, st⟩ [.c (.pv (.int .u8 v))] := by
  obtain ⟨h0, c, hc, rfl⟩ := bidxE h
  exact lt_index_str ho hu hx hi h0 hc
/-- The bounds of a part, told as integers. -/
def BdI (G : Nat → Option (List PV)) (env : List (Nat × List XV)) (o : Option Operand) (d r : Int) : Prop := match o with
  | none => r = d
  | some x => ∃ k, val G env x = some (.c (.pv (.int k r)))
theorem bd0 {d : Int} : BdI G env none d d := rfl
theorem bd1 {x : Operand} {k : IntKind} {d i : Int} (h : val G env x = some (.c (.pv (.int k i)))) : BdI G env (some x) d i := ⟨k, h⟩
theorem BdI.bd {o : Option Operand} {d : Nat} {r : Int} (h : BdI G env o d r) (h0 : 0 ≤ r) : Bd G env o d r.toNat := by
  cases o with
  | none => have h' : r = (d : Int) := h; show r.toNat = d; omega
  | some x => obtain ⟨k, h⟩ := h; exact ⟨k, r, h, h0, rfl⟩
theorem slice_str {T : TypeId} {x : Operand} {lo hi : Option Operand} {s v : ByteArray} {a b : Int} (ho : o.op = .slice T x lo hi none) (hu : P.underlying T = some .string) (hx : val G env x = some (.c (.pv (.str s)))) (hlo : BdI G env lo (0 : Nat) a) (hhi : BdI G env hi s.size b) (h : ssub s a b = some v) :
    LtT P G o ⟨n, m, env, st⟩ [.c (.pv (.str v))] := by
  obtain ⟨⟨h1, h2, h3⟩, rfl⟩ := ssubE h
  exact lt_slice_str ho hu hx (hlo.bd h1) (hhi.bd (by omega)) (by omega) (by omega)
theorem slice_sl {T E : TypeId} {x : Operand} {lo hi : Option Operand} {sz : Nat} {agg : Bool} {L v : List α} {a b : Int} (ho : o.op = .slice T x lo hi none) (hu : P.underlying T = some (.slice E)) (hT : Ty P E agg sz) (hx : val G env x = some (.c (.pv (.sl (L.map e)))))
    (hlo : BdI G env lo (0 : Nat) a) (hhi : BdI G env hi L.length b) (h : lsub L a b = some v) (hl : ∀ y, (e y).length = sz) : LtT P G o ⟨n, m, env, st⟩ [.c (.pv (.sl (v.map e)))] := by
  obtain ⟨⟨h1, h2, h3⟩, rfl⟩ := lsubE h
  have := lt_slice_sl (P := P) (G := G) (s := ⟨n, m, env, st⟩) (l := a.toNat) (r := b.toNat) ho hu hT hx (hlo.bd h1) (by rw [List.length_map]; exact hhi.bd (by omega)) (by omega) (by rw [List.length_map]; omega) (.inr (fun y hy => by
    obtain ⟨z, _, rfl⟩ := List.mem_map.1 hy
    exact hl z))
  rwa [← List.map_take, ← List.map_drop] at this
theorem app_ {T E : TypeId} {x y : Operand} {b sz bytes : Nat} {ch : Bool} {yv : XV} {L M v : List α} (hg : o.guard = none) (hd : o.dst = some t) (ht : decide (t < n) = true)
    (ho : o.op = .call { callee := .builtin .append, args := #[x, y], argTypes := #[T, T] }) (hu : P.underlying T = some (.slice E)) (hE : TyE P E sz bytes) (hb0 : 0 < bytes)
    (hx : val G env x = some (.c (.row b))) (hb : st[b]? = some (some (.row true ch E sz (L.map e)))) (hy : val G env y = some yv) (hs : Src ⟨n, m, [], st⟩ yv (M.map e)) (hsz : ∀ y, (e y).length = sz) (h : app bytes L M = some v)
    (he : mapEnv (prg b) env = env') (hs' : (mapSt (prg b) st).set b (some (.row true true E sz (v.map e))) = st')
    (hk : OpsT P G ops l ⟨n, m, (t, [.c (.row b)]) :: env', st'⟩ K) : OpsT P G ops (o :: l) ⟨n, m, env, st⟩ K := by
  obtain ⟨h1, rfl⟩ := appE h
  subst he; subst hs'
  rw [List.map_append] at hk
  exact ops_cons hg (op_append (s := ⟨n, m, env, st⟩) hd ht ho hu hE hb0 hx hb hy (src_mono hs) (fun z hz => by
    obtain ⟨q, _, rfl⟩ := List.mem_map.1 hz
    exact hsz q) (by rw [List.length_map, List.length_map]; exact h1) hk)
theorem storeR_ {T E : TypeId} {x y : Operand} {b off sz sz' : Nat} {agg ch : Bool} {i : Int} {L : List α} {z z' : α} {ps : List PV} {v : XV} {ys : List BV} (hg : o.guard = none) (hd : o.dst = none) (ho : o.op = .store T x y) (hT : Ty P T agg sz')
    (hx : val G env x = some (.c (.rp b sz i.toNat off))) (hb : st[b]? = some (some (.row true ch E sz (L.map e)))) (h : idx L i = some z) (hy : val G env y = some v) (hc : v.cells = some ys) (hp : toPVs ys = some ps) (hl : ps.length = sz') (hfit : decide (off + ps.length ≤ sz) = true)
    (hz : putP (e z) off ps = e z') (hs : SetAt st b (some (.row true ch E sz ((seti L i z').map e))) st') (hk : OpsT P G ops l ⟨n, m, env, st'⟩ K) : OpsT P G ops (o :: l) ⟨n, m, env, st⟩ K := by
  refine SR hg hd ho hT hx hb (idx_map e (idxE h).2) hy hc hp hl hfit ((seti L i z').map e) ?_ hs hk
  unfold seti
  rw [hz, List.map_set]
end
end Go.Proofs.YtaaihamelknhdaaGreatDoor.Abs
