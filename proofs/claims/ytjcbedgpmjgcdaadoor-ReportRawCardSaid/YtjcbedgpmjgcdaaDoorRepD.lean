/- Plain laws of report: a whole result's lines, and the reference's words of it. -/
import Derived.Test.YtjcbedgpmjgcdaaDoorRepC
namespace Go.Proofs.YtjcbedgpmjgcdaaDoor.Abs
open Go Go.RowKit
set_option linter.unusedVariables false
set_option linter.unusedSimpArgs false
def accW {α : Type} (f : Nat → α → List (List UInt8)) (l : List α) : Nat → List (List UInt8)
  | 0 => []
  | k + 1 => accW f l k ++ (match l[k]? with | some x => f k x | none => [])
theorem accW_s {α : Type} {f : Nat → α → List (List UInt8)} {l : List α} {k : Nat} (h : k < l.length) : accW f l (k + 1) = accW f l k ++ f k l[k] := by
  rw [accW, List.getElem?_eq_getElem h]
def flat (ls : List (List UInt8)) : List UInt8 := (ls.map (· ++ [10])).flatten
theorem flat_app (a b : List (List UInt8)) : flat (a ++ b) = flat a ++ flat b := by simp [flat]
theorem flat_one (x : List UInt8) : flat [x] = x ++ [10] := by simp [flat]
theorem flat_cons (x : List UInt8) (l : List (List UInt8)) : flat (x :: l) = (x ++ [10]) ++ flat l := by simp [flat]
theorem flatN (ls : List (List UInt8)) : ls.length ≤ (flat ls).length := by
  induction ls with
  | nil => simp
  | cons x l ih => rw [flat_cons]; simp; omega
theorem acc_len {α : Type} {f : Nat → α → List (List UInt8)} {l : List α} {B : Nat} (h : ∀ i x, l[i]? = some x → (flat (f i x)).length ≤ B) : ∀ k, (flat (accW f l k)).length ≤ k * B
  | 0 => by simp [accW, flat]
  | k + 1 => by
    have ih := acc_len h k
    rw [accW, flat_app, List.length_append, Nat.succ_mul]
    cases e : l[k]? with
    | none => simp [flat] at ih ⊢; omega
    | some x => have := h k x e; simp only; omega
def nodeW (n : Nat) (a : trans_State) : List UInt8 := (([110, 111, 100, 101, 32] ++ Lib.itoa n) ++ [58, 32]) ++ stW a
def nodeF (n : Nat) (a : trans_State) : List (List UInt8) := [nodeW n a]
def procF (p : Nat) (l : List trans_State) : List (List UInt8) := ([112, 114, 111, 99, 101, 115, 115, 32] ++ Lib.itoa p) :: accW nodeF l l.length
def tagW (t : Nat) (v : itv_Itv) : List UInt8 := (([116, 97, 103, 32] ++ Lib.itoa t) ++ [58, 32]) ++ iW v
def tagF (t : Nat) (v : itv_Itv) : List (List UInt8) := if v.Lo ≤ v.Hi then [tagW t v] else []
def chanS (e : queue_Elem) (k : Nat) : List (List UInt8) := (iW e.Len ++ [32, 109, 101, 115, 115, 97, 103, 101, 115]) :: accW tagF e.Vals k
def chanF (c : Nat) (e : queue_Elem) : List (List UInt8) := [(([99, 104, 97, 110, 110, 101, 108, 32] ++ Lib.itoa c) ++ [58, 32]) ++ sepW (chanS e e.Vals.length)]
def alarmF (i : Nat) (a : fix_Alarm) : List (List UInt8) := [alarmW a.Proc a.Edge a.Kind]
def lastW (n : Nat) : List UInt8 := if n = 0 then [110, 111, 32, 97, 108, 97, 114, 109] else Lib.itoa n ++ [32, 97, 108, 97, 114, 109, 115]
structure OkE (e : queue_Elem) : Prop where
  l : OkI e.Len
  v : ∀ x ∈ e.Vals, OkI x
  n : e.Vals.length ≤ 10
structure OkR (r : outer_Result) : Prop where
  s : I64 r.Steps
  p : r.At.length ≤ 10
  q : ∀ l ∈ r.At, l.length ≤ 1000 ∧ ∀ a ∈ l, OkS a
  e : r.Elems.length ≤ 10
  f : ∀ e ∈ r.Elems, OkE e
  a : r.Alarms.length ≤ 10000
  b : ∀ a ∈ r.Alarms, I64 a.Proc ∧ I64 a.Edge ∧ I64 a.Kind
theorem itoaN {n : Nat} (h : n ≤ 1000000) : itoa (n : Int) = some (bA (Lib.itoa n)) := itoa_eq (i64n (by omega))
theorem numN {n : Nat} (h : n ≤ 1000000) : r17_Number (n : Int) = some (bA (Lib.itoa n)) := number_eq (i64n (by omega))
theorem itN_len {n : Nat} (h : n ≤ 1000000) : (Lib.itoa (n : Int)).length ≤ 21 := itoa_len (i64n (by omega))
/-! ### lengths -/
theorem nodeF_len {n : Nat} {a : trans_State} (hn : n ≤ 1000000) (h : OkS a) : (flat (nodeF n a)).length ≤ 520 := by
  have h1 := stW_len h
  have h2 := itN_len hn
  unfold nodeF nodeW
  rw [flat_one]
  simp only [List.length_append, List.length_cons, List.length_nil]; omega
theorem mem_at {α : Type} {l : List α} {i : Nat} {x : α} (h : l[i]? = some x) : x ∈ l := List.mem_of_getElem? h
theorem lt_at {α : Type} {l : List α} {i : Nat} {x : α} (h : l[i]? = some x) : i < l.length := (List.getElem?_eq_some_iff.1 h).1
theorem nodes_len {l : List trans_State} (h1 : l.length ≤ 1000) (h2 : ∀ a ∈ l, OkS a) {k : Nat} (hk : k ≤ 1000) : (flat (accW nodeF l k)).length ≤ 520000 := by
  have := acc_len (f := nodeF) (l := l) (B := 520) (fun i x hx => nodeF_len (by have := lt_at hx; omega) (h2 x (mem_at hx))) k
  have : k * 520 ≤ 1000 * 520 := Nat.mul_le_mul_right _ hk
  omega
theorem procF_len {p : Nat} {l : List trans_State} (hp : p ≤ 1000000) (h1 : l.length ≤ 1000) (h2 : ∀ a ∈ l, OkS a) : (flat (procF p l)).length ≤ 520100 := by
  have a := nodes_len h1 h2 h1
  have b := itN_len hp
  unfold procF
  rw [flat_cons]
  simp only [List.length_append, List.length_cons, List.length_nil]; omega
theorem tagW_len {t : Nat} {v : itv_Itv} (ht : t ≤ 1000000) (hv : OkI v) : (tagW t v).length ≤ 75 := by
  have a := iW_len hv
  have b := itN_len ht
  unfold tagW
  simp only [List.length_append, List.length_cons, List.length_nil]; omega
theorem chanS_len {e : queue_Elem} (h : OkE e) : ∀ k, k ≤ 10 → (sepW (chanS e k)).length ≤ 55 + k * 77
  | 0, _ => by
    have := iW_len h.l
    show (sepW [_]).length ≤ _
    rw [sep_one]
    simp only [List.length_append, List.length_cons, List.length_nil]; omega
  | k + 1, hk => by
    have ih := chanS_len h k (by omega)
    rw [Nat.succ_mul]
    unfold chanS at ih ⊢
    rw [accW]
    cases e' : e.Vals[k]? with
    | none => simp only [List.append_nil]; omega
    | some v =>
      have hv := tagW_len (t := k) (by omega) (h.v v (mem_at e'))
      simp only
      by_cases c : v.Lo ≤ v.Hi
      · rw [show tagF k v = [tagW k v] from if_pos c, ← List.cons_append, sep_snoc _ _ (by simp)]
        simp only [List.length_append, List.length_cons, List.length_nil] at ih ⊢; omega
      · rw [show tagF k v = [] from if_neg c, List.append_nil]; omega
theorem chanF_len {c : Nat} {e : queue_Elem} (hc : c ≤ 1000000) (h : OkE e) : (flat (chanF c e)).length ≤ 900 := by
  have h1 := chanS_len h e.Vals.length h.n
  have h2 := h.n
  have h3 := itN_len hc
  unfold chanF
  rw [flat_one]
  simp only [List.length_append, List.length_cons, List.length_nil]; omega
theorem alarmF_len {i : Nat} {a : fix_Alarm} (h : I64 a.Proc ∧ I64 a.Edge ∧ I64 a.Kind) : (flat (alarmF i a)).length ≤ 77 := by
  have := alarmW_len a.Kind h.1 h.2.1
  unfold alarmF
  rw [flat_one]
  simp only [List.length_append, List.length_cons, List.length_nil]; omega
/-! ### report's lines -/
theorem R2 {l : List trans_State} (h1 : l.length ≤ 1000) (h2 : ∀ a ∈ l, OkS a) {L : List (List UInt8)} (hL : L.length ≤ 100000000) :
    iter (report_Text_l2 l) (0, L.map bA) = some (.inr ((L ++ accW nodeF l l.length).map bA)) := by
  have := iter_for (body := report_Text_l2 l) l.length (fun i => ((i : Int), (L ++ accW nodeF l i).map bA)) (.inr ((L ++ accW nodeF l l.length).map bA)) (fun i hi => ?_) ?_
  · simpa [accW] using this
  · have hs := h2 _ (List.getElem_mem hi)
    have a1 := stW_len hs
    have a2 := itN_len (n := i) (by omega)
    have a3 := nodes_len h1 h2 (k := i) (by omega)
    have a4 := flatN (accW nodeF l i)
    unfold report_Text_l2
    simp only
    rw [if_pos (i_lt hi), idx_at hi, sb, itoaN (by omega), sb]
    show (scat (bA [110, 111, 100, 101, 32]) _ >>= _) = _
    rw [scat_bA (by simp only [List.length_append, List.length_cons, List.length_nil]; omega), sb]
    show (scat _ (bA [58, 32]) >>= _) = _
    rw [scat_bA (by simp only [List.length_append, List.length_cons, List.length_nil]; omega), sb, report_state_eq hs, sb, scat_bA (by simp only [List.length_append, List.length_cons, List.length_nil]; omega), sb, app_some (by simp only [List.length_append, List.length_map, List.length_cons, List.length_nil]; omega), sb, w_succ (by omega), accW_s hi, ← List.append_assoc, List.map_append (l₂ := nodeF i _)]
    rfl
  · unfold report_Text_l2
    simp only
    rw [if_neg i_ge]
theorem R1 {r : outer_Result} (h : OkR r) {L : List (List UInt8)} (hL : L.length ≤ 10000000) :
    iter (report_Text_l1 r) (0, L.map bA) = some (.inr ((L ++ accW procF r.At r.At.length).map bA)) := by
  have := iter_for (body := report_Text_l1 r) r.At.length (fun i => ((i : Int), (L ++ accW procF r.At i).map bA)) (.inr ((L ++ accW procF r.At r.At.length).map bA)) (fun i hi => ?_) ?_
  · simpa [accW] using this
  · have hp := h.p
    have hq := h.q _ (List.getElem_mem hi)
    have a2 := itN_len (n := i) (by omega)
    have a3 := acc_len (f := procF) (l := r.At) (B := 520100) (fun j x hx => procF_len (by have := lt_at hx; omega) (h.q x (mem_at hx)).1 (h.q x (mem_at hx)).2) i
    have a4 := flatN (accW procF r.At i)
    have a5 : i * 520100 ≤ 10 * 520100 := Nat.mul_le_mul_right _ (by omega)
    unfold report_Text_l1
    simp only
    rw [if_pos (i_lt hi), idx_at hi, sb, itoaN (by omega), sb]
    show (scat (bA [112, 114, 111, 99, 101, 115, 115, 32]) _ >>= _) = _
    rw [scat_bA (by simp only [List.length_append, List.length_cons, List.length_nil]; omega), sb, app_some (by simp only [List.length_append, List.length_map, List.length_cons, List.length_nil]; omega), sb]
    have e : List.map bA (L ++ accW procF r.At i) ++ [bA ([112, 114, 111, 99, 101, 115, 115, 32] ++ Lib.itoa (i : Int))] = List.map bA ((L ++ accW procF r.At i) ++ [[112, 114, 111, 99, 101, 115, 115, 32] ++ Lib.itoa (i : Int)]) := by rw [List.map_append (l₁ := L ++ accW procF r.At i)]; rfl
    rw [e, R2 hq.1 hq.2 (by simp only [List.length_append, List.length_cons, List.length_nil]; omega), sb, Sum.elim_inr, w_succ (by omega), accW_s hi]
    unfold procF
    simp only [List.append_assoc, List.cons_append, List.nil_append]
  · unfold report_Text_l1
    simp only
    rw [if_neg i_ge]
theorem tags_eq {e : queue_Elem} (h : OkE e) : ∃ ts : List Nat, queue_Tags e = some (ts.map fun (t : Nat) => (t : Int)) ∧ ts.length ≤ 10 ∧ (∀ t ∈ ts, t < e.Vals.length) ∧ accW tagF e.Vals e.Vals.length = ts.map fun t => tagW t (e.Vals.getD t ⟨0, 0⟩) := by
  have hn := h.n
  have key : ∀ k, k ≤ e.Vals.length → ∃ ts : List Nat, ts.length ≤ k ∧ (∀ t ∈ ts, t < e.Vals.length) ∧ accW tagF e.Vals k = (ts.map fun t => tagW t (e.Vals.getD t ⟨0, 0⟩)) ∧ ∀ o, iter (queue_Tags_l2 e) ((k : Int), ts.map fun (t : Nat) => (t : Int)) = some o → iter (queue_Tags_l2 e) (0, []) = some o := by
    intro k
    induction k with
    | zero => exact fun _ => ⟨[], by simp, by simp, rfl, fun o ho => ho⟩
    | succ k ih =>
      intro hk
      obtain ⟨ts, h1, h2, h3, h4⟩ := ih (by omega)
      have hlt : k < e.Vals.length := by omega
      have hd : e.Vals.getD k ⟨0, 0⟩ = e.Vals[k] := by rw [List.getD_eq_getElem?_getD, List.getElem?_eq_getElem hlt]; rfl
      by_cases c : e.Vals[k].Lo ≤ e.Vals[k].Hi
      · refine ⟨ts ++ [k], by simp; omega, fun t ht => ?_, ?_, fun o ho => h4 o ?_⟩
        · rcases List.mem_append.1 ht with ht | ht
          · exact h2 t ht
          · rw [List.mem_singleton.1 ht]; exact hlt
        · rw [accW_s hlt, h3, List.map_append]
          unfold tagF
          rw [if_pos c]
          simp only [List.map_cons, List.map_nil, hd]
        · rw [iter_eq]
          have hb : queue_Tags_l2 e ((k : Int), ts.map fun (t : Nat) => (t : Int)) = some (.inl (((k + 1 : Nat) : Int), (ts ++ [k]).map fun (t : Nat) => (t : Int))) := by
            unfold queue_Tags_l2 itv_Empty
            simp only
            rw [if_pos (i_lt hlt), idx_at hlt, sb, sb, if_pos (by simpa using c), app_some (by simp only [List.length_map, List.length_cons, List.length_nil]; omega), w_succ (by omega), List.map_append]; rfl
          rw [hb]; exact ho
      · refine ⟨ts, by omega, h2, ?_, fun o ho => h4 o ?_⟩
        · rw [accW_s hlt, h3]
          unfold tagF
          rw [if_neg c, List.append_nil]
        · rw [iter_eq]
          have hb : queue_Tags_l2 e ((k : Int), ts.map fun (t : Nat) => (t : Int)) = some (.inl (((k + 1 : Nat) : Int), ts.map fun (t : Nat) => (t : Int))) := by
            unfold queue_Tags_l2 itv_Empty
            simp only
            rw [if_pos (i_lt hlt), idx_at hlt, sb, sb, if_neg (by simpa using c), w_succ (by omega)]; rfl
          rw [hb]; exact ho
  obtain ⟨ts, h1, h2, h3, h4⟩ := key _ (Nat.le_refl _)
  refine ⟨ts, ?_, by omega, h2, h3⟩
  unfold queue_Tags
  rw [h4 (.inr (ts.map fun (t : Nat) => (t : Int))) (by
    refine iter_out ?_
    unfold queue_Tags_l2
    simp only
    rw [if_neg i_ge])]
  rfl
theorem chan_eq {e : queue_Elem} (h : OkE e) : report_channel e = some (bA (sepW (chanS e e.Vals.length))) := by
  obtain ⟨ts, q1, q2, q3, q4⟩ := tags_eq h
  have hl := iW_len h.l
  have hn := h.n
  unfold report_channel
  rw [report_itv h.l.lo h.l.hi, sb]
  show (scat (bA (iW e.Len)) (bA [32, 109, 101, 115, 115, 97, 103, 101, 115]) >>= _) = _
  rw [scat_bA (by simp only [List.length_append, List.length_cons, List.length_nil]; omega), sb, q1, sb]
  have it : iter (report_channel_l1 e (ts.map fun (t : Nat) => (t : Int))) (0, [bA (iW e.Len ++ [32, 109, 101, 115, 115, 97, 103, 101, 115])]) = some (.inr ((chanS e e.Vals.length).map bA)) := by
    have := iter_for (body := report_channel_l1 e (ts.map fun (t : Nat) => (t : Int))) ts.length (fun i => ((i : Int), ((iW e.Len ++ [32, 109, 101, 115, 115, 97, 103, 101, 115]) :: (ts.take i).map fun t => tagW t (e.Vals.getD t ⟨0, 0⟩)).map bA)) (.inr ((chanS e e.Vals.length).map bA)) (fun i hi => ?_) ?_
    · simpa using this
    · have ht := q3 _ (List.getElem_mem hi)
      have a1 := itN_len (n := ts[i]) (by omega)
      have hv := h.v _ (List.getElem_mem ht)
      have a2 := iW_len hv
      have hd : e.Vals.getD ts[i] ⟨0, 0⟩ = e.Vals[ts[i]] := by rw [List.getD_eq_getElem?_getD, List.getElem?_eq_getElem ht]; rfl
      unfold report_channel_l1
      simp only [List.length_map]
      rw [if_pos (i_lt hi), show idx (ts.map fun (t : Nat) => (t : Int)) (i : Int) = some ((ts[i] : Nat) : Int) from idx_nat (by rw [List.getElem?_map, List.getElem?_eq_getElem hi]; rfl), sb, itoaN (by omega), sb]
      show (scat (bA [116, 97, 103, 32]) _ >>= _) = _
      rw [scat_bA (by simp only [List.length_append, List.length_cons, List.length_nil]; omega), sb]
      show (scat _ (bA [58, 32]) >>= _) = _
      rw [scat_bA (by simp only [List.length_append, List.length_cons, List.length_nil]; omega), sb, idx_at ht, sb, report_itv hv.lo hv.hi, sb]
      show (scat _ (bA (iW _)) >>= _) = _
      rw [scat_bA (by simp only [List.length_append, List.length_cons, List.length_nil]; omega), sb, app_some (by simp only [List.length_map, List.length_take, List.length_cons, List.length_nil]; omega), sb, w_succ (by omega), List.take_succ_eq_append_getElem hi, List.map_append, ← List.cons_append, List.map_append]
      simp only [List.map_cons, List.map_nil, hd]
      rfl
    · unfold report_channel_l1 chanS
      simp only [List.length_map]
      rw [if_neg i_ge, List.take_length, q4]
  rw [it, sb, Sum.elim_inr, join_sep (by unfold chanS; simp) (by
    have := q4
    unfold chanS
    rw [q4]
    simp only [List.length_cons, List.length_map]; omega) (by have := chanS_len h _ h.n; omega)]
  rfl
theorem R3 {r : outer_Result} (h : OkR r) {L : List (List UInt8)} (hL : L.length ≤ 100000000) :
    iter (report_Text_l3 r) (0, L.map bA) = some (.inr ((L ++ accW chanF r.Elems r.Elems.length).map bA)) := by
  have := iter_for (body := report_Text_l3 r) r.Elems.length (fun i => ((i : Int), (L ++ accW chanF r.Elems i).map bA)) (.inr ((L ++ accW chanF r.Elems r.Elems.length).map bA)) (fun i hi => ?_) ?_
  · simpa [accW] using this
  · have hp := h.e
    have hq := h.f _ (List.getElem_mem hi)
    have a1 := chanS_len hq _ hq.n
    have a0 := hq.n
    have a2 := itN_len (n := i) (by omega)
    have a3 := acc_len (f := chanF) (l := r.Elems) (B := 900) (fun j x hx => chanF_len (by have := lt_at hx; omega) (h.f x (mem_at hx))) i
    have a4 := flatN (accW chanF r.Elems i)
    unfold report_Text_l3
    simp only
    rw [if_pos (i_lt hi), idx_at hi, sb, itoaN (by omega), sb]
    show (scat (bA [99, 104, 97, 110, 110, 101, 108, 32]) _ >>= _) = _
    rw [scat_bA (by simp only [List.length_append, List.length_cons, List.length_nil]; omega), sb]
    show (scat _ (bA [58, 32]) >>= _) = _
    rw [scat_bA (by simp only [List.length_append, List.length_cons, List.length_nil]; omega), sb, chan_eq hq, sb, scat_bA (by simp only [List.length_append, List.length_cons, List.length_nil]; omega), sb, app_some (by simp only [List.length_append, List.length_map, List.length_cons, List.length_nil]; omega), sb, w_succ (by omega), accW_s hi, ← List.append_assoc, List.map_append (l₂ := chanF i _)]
    rfl
  · unfold report_Text_l3
    simp only
    rw [if_neg i_ge]
theorem R4 {r : outer_Result} (h : OkR r) {L : List (List UInt8)} (hL : L.length ≤ 100000000) :
    iter (report_Text_l4 r) (0, L.map bA) = some (.inr ((L ++ accW alarmF r.Alarms r.Alarms.length).map bA)) := by
  have := iter_for (body := report_Text_l4 r) r.Alarms.length (fun i => ((i : Int), (L ++ accW alarmF r.Alarms i).map bA)) (.inr ((L ++ accW alarmF r.Alarms r.Alarms.length).map bA)) (fun i hi => ?_) ?_
  · simpa [accW] using this
  · have hp := h.a
    have hq := h.b _ (List.getElem_mem hi)
    have a3 := acc_len (f := alarmF) (l := r.Alarms) (B := 77) (fun j x hx => alarmF_len (h.b x (mem_at hx))) i
    have a4 := flatN (accW alarmF r.Alarms i)
    unfold report_Text_l4
    simp only
    rw [if_pos (i_lt hi), idx_at hi, sb, report_alarm hq.1 hq.2.1, sb, app_some (by simp only [List.length_append, List.length_map, List.length_cons, List.length_nil]; omega), sb, w_succ (by omega), accW_s hi, ← List.append_assoc, List.map_append (l₂ := alarmF i _)]
    rfl
  · unfold report_Text_l4
    simp only
    rw [if_neg i_ge]
end Go.Proofs.YtjcbedgpmjgcdaaDoor.Abs
