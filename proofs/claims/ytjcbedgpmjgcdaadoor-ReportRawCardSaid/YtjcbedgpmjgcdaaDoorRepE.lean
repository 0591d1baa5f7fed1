/- Plain laws of report: the reference's words of a result are the lines, and ReportRaw answers true. -/
import Derived.Test.YtjcbedgpmjgcdaaDoorRepD
namespace Go.Proofs.YtjcbedgpmjgcdaaDoor.Abs
open Go Go.RowKit
set_option linter.unusedVariables false
set_option linter.unusedSimpArgs false
def stepsW (n : Int) : List UInt8 := [115, 116, 101, 112, 115, 32] ++ Lib.itoa n
def linesW (r : outer_Result) : List (List UInt8) := (((([stepsW r.Steps] ++ accW procF r.At r.At.length) ++ accW chanF r.Elems r.Elems.length) ++ accW alarmF r.Alarms r.Alarms.length) ++ [lastW r.Alarms.length])
theorem join_flat : ∀ (X : List (List UInt8)), X ≠ [] → Lib.join (X ++ [[]]) [10] = flat X := by
  have tail : ∀ X : List (List UInt8), [10] ++ flat X = Lib.joinTail [10] X ++ [10] := by
    intro X
    induction X with
    | nil => rfl
    | cons x X ih =>
      rw [flat_cons]
      unfold Lib.joinTail at ih ⊢
      rw [List.map_cons, List.flatten_cons, List.append_assoc, ih]
      simp only [List.append_assoc]
  intro X hX
  cases X with
  | nil => exact absurd rfl hX
  | cons x X =>
    rw [List.cons_append, Lib.join_cons, flat_cons, List.append_assoc, tail]
    congr 1
    unfold Lib.joinTail
    rw [List.map_append, List.flatten_append]
    rfl
theorem last_len {n : Nat} (h : n ≤ 1000000) : (lastW n).length ≤ 40 := by
  have := itN_len h
  unfold lastW
  split
  · decide
  · simp only [List.length_append, List.length_cons, List.length_nil]; omega
theorem last_eq {n : Nat} (h : n ≤ 1000000) : report_last (n : Int) = some (bA (lastW n)) := by
  have := itN_len h
  unfold report_last lastW
  by_cases c : n = 0
  · rw [if_pos (by simpa using c), if_pos c]; rfl
  · rw [if_neg (by simpa using c), if_neg c, itoaN h, sb]
    show (scat _ (bA [32, 97, 108, 97, 114, 109, 115]) >>= _) = _
    rw [scat_bA (by simp only [List.length_cons, List.length_nil]; omega)]; rfl
theorem P_len {r : outer_Result} (h : OkR r) {k : Nat} (hk : k ≤ r.At.length) : (flat (accW procF r.At k)).length ≤ 5201000 := by
  have := h.p
  have a := acc_len (f := procF) (l := r.At) (B := 520100) (fun j x hx => procF_len (by have := lt_at hx; omega) (h.q x (mem_at hx)).1 (h.q x (mem_at hx)).2) k
  have b : k * 520100 ≤ 10 * 520100 := Nat.mul_le_mul_right _ (by omega)
  omega
theorem C_len {r : outer_Result} (h : OkR r) {k : Nat} (hk : k ≤ r.Elems.length) : (flat (accW chanF r.Elems k)).length ≤ 9000 := by
  have := h.e
  have a := acc_len (f := chanF) (l := r.Elems) (B := 900) (fun j x hx => chanF_len (by have := lt_at hx; omega) (h.f x (mem_at hx))) k
  have b : k * 900 ≤ 10 * 900 := Nat.mul_le_mul_right _ (by omega)
  omega
theorem A_len {r : outer_Result} (h : OkR r) {k : Nat} (hk : k ≤ r.Alarms.length) : (flat (accW alarmF r.Alarms k)).length ≤ 770000 := by
  have := h.a
  have a := acc_len (f := alarmF) (l := r.Alarms) (B := 77) (fun j x hx => alarmF_len (h.b x (mem_at hx))) k
  have b : k * 77 ≤ 10000 * 77 := Nat.mul_le_mul_right _ (by omega)
  omega
theorem steps_len {n : Int} (h : I64 n) : (stepsW n).length ≤ 27 := by
  have := itoa_len h
  unfold stepsW
  simp only [List.length_append, List.length_cons, List.length_nil]; omega
theorem Text_eq {r : outer_Result} (h : OkR r) : report_Text r = some (bA (flat (linesW r))) := by
  have hs := itoa_len h.s
  have s0 := steps_len h.s
  have p1 := P_len h (Nat.le_refl _); have p2 := flatN (accW procF r.At r.At.length)
  have c1 := C_len h (Nat.le_refl _); have c2 := flatN (accW chanF r.Elems r.Elems.length)
  have l1 := A_len h (Nat.le_refl _); have l2 := flatN (accW alarmF r.Alarms r.Alarms.length)
  have ha := h.a
  have e1 := last_len (n := r.Alarms.length) (by omega)
  unfold report_Text
  rw [itoa_eq h.s, sb]
  show (scat (bA [115, 116, 101, 112, 115, 32]) _ >>= _) = _
  rw [scat_bA (by simp only [List.length_cons, List.length_nil]; omega), sb]
  show (iter _ (0, List.map bA [stepsW r.Steps]) >>= _) = _
  rw [R1 h (by simp), sb, Sum.elim_inr, R3 h (by simp only [List.length_append, List.length_cons, List.length_nil]; omega), sb, Sum.elim_inr, R4 h (by simp only [List.length_append, List.length_cons, List.length_nil]; omega), sb, Sum.elim_inr, last_eq (by omega), sb]
  generalize hX : ((([stepsW r.Steps] ++ accW procF r.At r.At.length) ++ accW chanF r.Elems r.Elems.length) ++ accW alarmF r.Alarms r.Alarms.length) = X
  have hl : linesW r = X ++ [lastW r.Alarms.length] := by unfold linesW; rw [hX]
  have hne : linesW r ≠ [] := by rw [hl]; simp
  have hXl : X.length ≤ 10000000 := by
    rw [← hX]; simp only [List.length_append, List.length_cons, List.length_nil]; omega
  have hF : (flat (linesW r)).length ≤ 10000000 := by
    unfold linesW
    simp only [flat_app, flat_one, List.length_append, List.length_cons, List.length_nil]; omega
  rw [app_some (by simp only [List.length_map, List.length_cons, List.length_nil]; omega), sb]
  have e : List.map bA X ++ [bA (lastW r.Alarms.length), ByteArray.mk #[]] = List.map bA (linesW r ++ [[]]) := by
    rw [hl, List.append_assoc, List.map_append (l₁ := X)]; rfl
  rw [e]
  have ej : joinB (List.map bA (linesW r ++ [[]])) (ByteArray.mk #[10]) = flat (linesW r) := by
    unfold joinB
    rw [List.map_map]
    have : ((fun x => x.data.toList) ∘ bA) = (id : List UInt8 → List UInt8) := by funext x; rfl
    rw [this, List.map_id]
    exact join_flat _ hne
  unfold join
  rw [ej, if_pos ⟨by simp, by rw [hl]; simp only [List.length_append, List.length_map, List.length_cons, List.length_nil]; omega, by omega⟩]
  rfl
/-! ### the reference -/
theorem q5 {a : trans_State} (h : OkS a) {V : List UInt8} (hV : V.length ≤ 100000000) (hN : a.N.None = false) :
    (((if ((a.N.I.length : Int) == 0) then (scat (bA V) (ByteArray.mk #[110, 111, 116, 104, 105, 110, 103]) >>= fun v16 => some v16) else (some (bA V)) : Option ByteArray)) >>= fun j4 => iter (l17_text_l5 a) (j4, 0) >>= Sum.elim (fun _ => none) (fun j5 => scat j5 (ByteArray.mk #[10]) >>= fun v23 => some v23)) = some (bA (V ++ (stW a ++ [10]))) := by
  have hn := h.n
  have hsl := stW_len h
  by_cases e : a.N.I = []
  · rw [if_pos (by rw [e]; rfl)]
    show ((scat (bA V) (bA [110, 111, 116, 104, 105, 110, 103]) >>= _) >>= _) = _
    rw [scat_bA (by simp only [List.length_cons, List.length_nil]; omega), sb, sb, iter_out (r := .inr (bA (V ++ [110, 111, 116, 104, 105, 110, 103]))) (by unfold l17_text_l5; rw [e]; rfl), sb, Sum.elim_inr]
    show (scat _ (bA [10]) >>= _) = _
    rw [scat_bA (by simp only [List.length_append, List.length_cons, List.length_nil]; omega), sb]
    unfold stW
    rw [if_neg (by rw [hN]; simp), if_pos e, List.append_assoc]
  · rw [if_neg (by simpa using e), sb]
    have hs : stW a = sepW (a.N.I.map iW) := by unfold stW; rw [if_neg (by rw [hN]; simp), if_neg e]
    have hb : ∀ k, k ≤ a.N.I.length → (sepW ((a.N.I.take k).map iW)).length ≤ 480 := fun k hk => by
      have := sep_len (ls := (a.N.I.take k).map iW) (b := 46) (fun x hx => by
        obtain ⟨y, hy, rfl⟩ := List.mem_map.1 hx
        exact iW_len (h.i y (List.mem_of_mem_take hy)))
      rw [List.length_map, List.length_take] at this
      have : min k a.N.I.length * (46 + 2) ≤ 10 * (46 + 2) := Nat.mul_le_mul_right _ (by omega)
      omega
    have it := iter_for (body := l17_text_l5 a) a.N.I.length (fun i => (bA (V ++ sepW ((a.N.I.take i).map iW)), (i : Int))) (.inr (bA (V ++ stW a))) (fun i hi => ?_) ?_
    · have e0 : bA V = bA (V ++ sepW ((a.N.I.take 0).map iW)) := by
        rw [List.take_zero]; show _ = bA (V ++ []); rw [List.append_nil]
      rw [e0]
      show (iter (l17_text_l5 a) (bA (V ++ sepW ((a.N.I.take 0).map iW)), ((0 : Nat) : Int)) >>= _) = _
      rw [it, sb, Sum.elim_inr]
      show (scat _ (bA [10]) >>= _) = _
      rw [scat_bA (by simp only [List.length_append, List.length_cons, List.length_nil]; omega), sb, List.append_assoc]
    · have ho := h.i _ (List.getElem_mem hi)
      have hil := iW_len ho
      have hbi := hb i (by omega)
      unfold l17_text_l5
      simp only
      rw [if_pos (i_lt hi), idx_at hi]
      have er : r17_Itv (r08_Itv.mk a.N.I[i].Lo a.N.I[i].Hi) = some (bA (iW a.N.I[i])) := ref_itv ho.lo ho.hi
      by_cases c : i = 0
      · subst c
        rw [if_neg (by simp), sb, sb, sb, er, sb, scat_bA (by simp only [List.length_append]; omega), sb, w_succ (by omega), List.take_succ_eq_append_getElem hi, List.map_append]
        have : sepW (List.map iW (List.take 0 a.N.I) ++ List.map iW [a.N.I[0]]) = iW a.N.I[0] := sep_one _
        rw [this]
        have : sepW (List.map iW (List.take 0 a.N.I)) = [] := rfl
        rw [this, List.append_nil]
      · rw [if_pos (by simp; omega)]
        show ((scat _ (bA [44, 32]) >>= _) >>= _) = _
        rw [scat_bA (by simp only [List.length_append, List.length_cons, List.length_nil]; omega), sb, sb, sb, sb, er, sb, scat_bA (by simp only [List.length_append, List.length_cons, List.length_nil]; omega), sb, w_succ (by omega), List.take_succ_eq_append_getElem hi, List.map_append, show List.map iW [a.N.I[i]] = [iW a.N.I[i]] from rfl, sep_snoc _ _ (by
          intro q
          have := congrArg List.length q
          rw [List.length_map, List.length_take] at this
          rw [List.length_nil] at this
          omega)]
        simp only [List.append_assoc]
    · unfold l17_text_l5
      simp only
      rw [if_neg i_ge, List.take_length, hs]
theorem Q2 {r : outer_Result} (h : OkR r) {p : Nat} (hp : p < r.At.length) (x : ByteArray) {S : List UInt8} (hS : S.length ≤ 10000000) :
    iter (l17_text_l2 r (x, (p : Int))) (bA S, 0) = some (.inr (bA (S ++ flat (accW nodeF r.At[p] r.At[p].length)))) := by
  have hq := h.q _ (List.getElem_mem hp)
  generalize hl : r.At[p] = l at hq
  have hidx : idx r.At (p : Int) = some l := by rw [idx_at hp, hl]
  have it := iter_for (body := l17_text_l2 r (x, (p : Int))) l.length (fun i => (bA (S ++ flat (accW nodeF l i)), (i : Int))) (.inr (bA (S ++ flat (accW nodeF l l.length)))) (fun i hi => ?_) ?_
  · simpa [accW, flat] using it
  · have hs := hq.2 _ (List.getElem_mem hi)
    have a1 := stW_len hs
    have a2 := itN_len (n := i) (by omega)
    have a3 := nodes_len hq.1 hq.2 (k := i) (by omega)
    unfold l17_text_l2
    simp only [hidx, sb]
    rw [if_pos (i_lt hi), idx_at hi, sb]
    show ((scat _ (bA [110, 111, 100, 101, 32]) >>= _) >>= _) = _
    rw [scat_bA (by simp only [List.length_append, List.length_cons, List.length_nil]; omega), sb, numN (by omega), sb, scat_bA (by simp only [List.length_append, List.length_cons, List.length_nil]; omega), sb]
    show ((scat _ (bA [58, 32]) >>= _) >>= _) = _
    rw [scat_bA (by simp only [List.length_append, List.length_cons, List.length_nil]; omega), sb]
    have hfin : S ++ flat (accW nodeF l (i + 1)) = (((S ++ flat (accW nodeF l i)) ++ [110, 111, 100, 101, 32]) ++ Lib.itoa (i : Int) ++ [58, 32]) ++ (stW l[i] ++ [10]) := by
      rw [accW_s hi, flat_app]
      unfold nodeF nodeW
      rw [flat_one]
      simp only [List.append_assoc]
    rw [hfin]
    cases hN : l[i].N.None with
    | true =>
      rw [if_pos rfl]
      show ((scat _ (bA [110, 101, 118, 101, 114, 10]) >>= _) >>= _) = _
      rw [scat_bA (by simp only [List.length_append, List.length_cons, List.length_nil]; omega), sb, sb, w_succ (by omega), show stW l[i] = [110, 101, 118, 101, 114] from if_pos hN]
      rfl
    | false =>
      rw [if_neg (by simp), q5 hs (by simp only [List.length_append, List.length_cons, List.length_nil]; omega) hN, sb, w_succ (by omega)]
  · unfold l17_text_l2
    simp only [hidx, sb]
    rw [if_neg i_ge]
theorem Q1 {r : outer_Result} (h : OkR r) {S : List UInt8} (hS : S.length ≤ 1000000) :
    iter (l17_text_l1 r) (bA S, 0) = some (.inr (bA (S ++ flat (accW procF r.At r.At.length)))) := by
  have it := iter_for (body := l17_text_l1 r) r.At.length (fun i => (bA (S ++ flat (accW procF r.At i)), (i : Int))) (.inr (bA (S ++ flat (accW procF r.At r.At.length)))) (fun i hi => ?_) ?_
  · simpa [accW, flat] using it
  · have hp := h.p
    have hq := h.q _ (List.getElem_mem hi)
    have a2 := itN_len (n := i) (by omega)
    have a3 := P_len h (k := i) (by omega)
    unfold l17_text_l1
    simp only
    rw [if_pos (i_lt hi)]
    show (scat _ (bA [112, 114, 111, 99, 101, 115, 115, 32]) >>= _) = _
    rw [scat_bA (by simp only [List.length_append, List.length_cons, List.length_nil]; omega), sb, numN (by omega), sb, scat_bA (by simp only [List.length_append, List.length_cons, List.length_nil]; omega), sb]
    show (scat _ (bA [10]) >>= _) = _
    rw [scat_bA (by simp only [List.length_append, List.length_cons, List.length_nil]; omega), sb, Q2 h hi _ (by simp only [List.length_append, List.length_cons, List.length_nil]; omega), sb, Sum.elim_inr, w_succ (by omega), accW_s hi, flat_app]
    unfold procF
    rw [flat_cons]
    simp only [List.append_assoc]
  · unfold l17_text_l1
    simp only
    rw [if_neg i_ge]
theorem Q8 {e : queue_Elem} (h : OkE e) {S : List UInt8} (hS : S.length ≤ 100000000) :
    iter (l17_text_l8 e) (bA (S ++ sepW (chanS e 0)), 0) = some (.inr (bA (S ++ sepW (chanS e e.Vals.length)))) := by
  have hn := h.n
  refine iter_for (body := l17_text_l8 e) e.Vals.length (fun i => (bA (S ++ sepW (chanS e i)), (i : Int))) (.inr (bA (S ++ sepW (chanS e e.Vals.length)))) (fun i hi => ?_) ?_
  · have hv := h.v _ (List.getElem_mem hi)
    have a1 := itN_len (n := i) (by omega)
    have a2 := iW_len hv
    have a3 := chanS_len h i (by omega)
    unfold l17_text_l8
    simp only
    rw [if_pos (i_lt hi), idx_at hi, sb, sb]
    have hc : chanS e (i + 1) = chanS e i ++ tagF i e.Vals[i] := by
      unfold chanS
      rw [accW_s hi, List.cons_append]
    have er : r17_Itv (r08_Itv.mk e.Vals[i].Lo e.Vals[i].Hi) = some (bA (iW e.Vals[i])) := ref_itv hv.lo hv.hi
    by_cases c : e.Vals[i].Lo ≤ e.Vals[i].Hi
    · rw [if_pos (by simpa using c)]
      show ((scat _ (bA [44, 32, 116, 97, 103, 32]) >>= _) >>= _) = _
      rw [scat_bA (by simp only [List.length_append, List.length_cons, List.length_nil]; omega), sb, numN (by omega), sb, scat_bA (by simp only [List.length_append, List.length_cons, List.length_nil]; omega), sb]
      show ((scat _ (bA [58, 32]) >>= _) >>= _) = _
      rw [scat_bA (by simp only [List.length_append, List.length_cons, List.length_nil]; omega), sb, sb, sb, er, sb, scat_bA (by simp only [List.length_append, List.length_cons, List.length_nil]; omega), sb, sb, w_succ (by omega), hc, show tagF i e.Vals[i] = [tagW i e.Vals[i]] from if_pos c, sep_snoc _ _ (by unfold chanS; simp)]
      unfold tagW
      simp only [List.append_assoc, List.cons_append, List.nil_append]
    · rw [if_neg (by simpa using c), sb, w_succ (by omega), hc, show tagF i e.Vals[i] = [] from if_neg c, List.append_nil]
  · unfold l17_text_l8
    simp only
    rw [if_neg i_ge]
theorem Q7 {r : outer_Result} (h : OkR r) {S : List UInt8} (hS : S.length ≤ 10000000) :
    iter (l17_text_l7 r) (bA S, 0) = some (.inr (bA (S ++ flat (accW chanF r.Elems r.Elems.length)))) := by
  have it := iter_for (body := l17_text_l7 r) r.Elems.length (fun i => (bA (S ++ flat (accW chanF r.Elems i)), (i : Int))) (.inr (bA (S ++ flat (accW chanF r.Elems r.Elems.length)))) (fun i hi => ?_) ?_
  · simpa [accW, flat] using it
  · have hp := h.e
    have hq := h.f _ (List.getElem_mem hi)
    have a0 := hq.n
    have a1 := chanS_len hq _ hq.n
    have a2 := itN_len (n := i) (by omega)
    have a3 := C_len h (k := i) (by omega)
    have a4 := iW_len hq.l
    unfold l17_text_l7
    simp only
    rw [if_pos (i_lt hi), idx_at hi, sb]
    show (scat _ (bA [99, 104, 97, 110, 110, 101, 108, 32]) >>= _) = _
    rw [scat_bA (by simp only [List.length_append, List.length_cons, List.length_nil]; omega), sb, numN (by omega), sb, scat_bA (by simp only [List.length_append, List.length_cons, List.length_nil]; omega), sb]
    show (scat _ (bA [58, 32]) >>= _) = _
    have er : r17_Itv (r08_Itv.mk r.Elems[i].Len.Lo r.Elems[i].Len.Hi) = some (bA (iW r.Elems[i].Len)) := ref_itv hq.l.lo hq.l.hi
    rw [scat_bA (by simp only [List.length_append, List.length_cons, List.length_nil]; omega), sb, er, sb, scat_bA (by simp only [List.length_append, List.length_cons, List.length_nil]; omega), sb]
    show (scat _ (bA [32, 109, 101, 115, 115, 97, 103, 101, 115]) >>= _) = _
    rw [scat_bA (by simp only [List.length_append, List.length_cons, List.length_nil]; omega), sb]
    have e0 : ((((((S ++ flat (accW chanF r.Elems i)) ++ [99, 104, 97, 110, 110, 101, 108, 32]) ++ Lib.itoa (i : Int)) ++ [58, 32]) ++ iW r.Elems[i].Len) ++ [32, 109, 101, 115, 115, 97, 103, 101, 115]) = ((((S ++ flat (accW chanF r.Elems i)) ++ [99, 104, 97, 110, 110, 101, 108, 32]) ++ Lib.itoa (i : Int)) ++ [58, 32]) ++ sepW (chanS r.Elems[i] 0) := by
      rw [show sepW (chanS r.Elems[i] 0) = iW r.Elems[i].Len ++ [32, 109, 101, 115, 115, 97, 103, 101, 115] from sep_one _]
      simp only [List.append_assoc]
    rw [e0, Q8 hq (by simp only [List.length_append, List.length_cons, List.length_nil]; omega), sb, Sum.elim_inr]
    show (scat _ (bA [10]) >>= _) = _
    rw [scat_bA (by simp only [List.length_append, List.length_cons, List.length_nil]; omega), sb, w_succ (by omega), accW_s hi, flat_app]
    unfold chanF
    rw [flat_one]
    simp only [List.append_assoc]
  · unfold l17_text_l7
    simp only
    rw [if_neg i_ge]
theorem Q10 {r : outer_Result} (h : OkR r) {S : List UInt8} (hS : S.length ≤ 100000000) :
    iter (l17_text_l10 r) (bA S, 0) = some (.inr (bA (S ++ flat (accW alarmF r.Alarms r.Alarms.length)))) := by
  have it := iter_for (body := l17_text_l10 r) r.Alarms.length (fun i => (bA (S ++ flat (accW alarmF r.Alarms i)), (i : Int))) (.inr (bA (S ++ flat (accW alarmF r.Alarms r.Alarms.length)))) (fun i hi => ?_) ?_
  · simpa [accW, flat] using it
  · have hp := h.a
    have hq := h.b _ (List.getElem_mem hi)
    have a1 := alarmW_len r.Alarms[i].Kind hq.1 hq.2.1
    have a3 := A_len h (k := i) (by omega)
    unfold l17_text_l10
    simp only
    rw [if_pos (i_lt hi), idx_at hi, sb, sb, sb, ref_alarm hq.1 hq.2.1 hq.2.2, sb, scat_bA (by simp only [List.length_append]; omega), sb]
    show (scat _ (bA [10]) >>= _) = _
    rw [scat_bA (by simp only [List.length_append, List.length_cons, List.length_nil]; omega), sb, w_succ (by omega), accW_s hi, flat_app]
    unfold alarmF
    rw [flat_one]
    simp only [List.append_assoc]
  · unfold l17_text_l10
    simp only
    rw [if_neg i_ge]
theorem ref_Text {r : outer_Result} (h : OkR r) : l17_text r = some (bA (flat (linesW r))) := by
  have s0 := steps_len h.s
  have s1 := itoa_len h.s
  have p1 := P_len h (Nat.le_refl _)
  have c1 := C_len h (Nat.le_refl _)
  have l1 := A_len h (Nat.le_refl _)
  have ha := h.a
  have e1 := itN_len (n := r.Alarms.length) (by omega)
  unfold l17_text
  rw [number_eq h.s, sb]
  show (scat (bA [115, 116, 101, 112, 115, 32]) _ >>= _) = _
  rw [scat_bA (by simp only [List.length_cons, List.length_nil]; omega), sb]
  show (scat (bA (stepsW r.Steps)) (bA [10]) >>= _) = _
  rw [scat_bA (by simp only [List.length_cons, List.length_nil]; omega), sb, Q1 h (by simp only [List.length_append, List.length_cons, List.length_nil]; omega), sb, Sum.elim_inr, Q7 h (by simp only [List.length_append, List.length_cons, List.length_nil]; omega), sb, Sum.elim_inr, Q10 h (by simp only [List.length_append, List.length_cons, List.length_nil]; omega), sb, Sum.elim_inr]
  unfold linesW
  rw [flat_app, flat_app, flat_app, flat_app, flat_one, flat_one]
  unfold lastW
  by_cases c : r.Alarms.length = 0
  · rw [if_pos (by simpa using c), if_pos c]
    show (scat _ (bA [110, 111, 32, 97, 108, 97, 114, 109, 10]) >>= _) = _
    rw [scat_bA (by simp only [List.length_append, List.length_cons, List.length_nil]; omega), sb]
    simp only [List.append_assoc, List.cons_append, List.nil_append]
  · rw [if_neg (by simpa using c), if_neg c, numN (by omega), sb, scat_bA (by simp only [List.length_append, List.length_cons, List.length_nil]; omega), sb]
    show (scat _ (bA [32, 97, 108, 97, 114, 109, 115, 10]) >>= _) = _
    rw [scat_bA (by simp only [List.length_append, List.length_cons, List.length_nil]; omega), sb]
    simp only [List.append_assoc, List.cons_append, List.nil_append]
end Go.Proofs.YtjcbedgpmjgcdaaDoor.Abs
