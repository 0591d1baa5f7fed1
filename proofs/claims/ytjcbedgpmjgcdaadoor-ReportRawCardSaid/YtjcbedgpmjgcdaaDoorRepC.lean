/- Plain laws of report: a whole result's words are the reference's. -/
import Derived.Test.YtjcbedgpmjgcdaaDoorRepB
namespace Go.Proofs.YtjcbedgpmjgcdaaDoor.Abs
open Go Go.RowKit
set_option linter.unusedVariables false
set_option linter.unusedSimpArgs false
theorem iter_for {X O : Type} {body : X → Option (Sum X O)} (n : Nat) (x : Nat → X) (o : O) (hs : ∀ i, i < n → body (x i) = some (.inl (x (i + 1)))) (he : body (x n) = some (.inr o)) : iter body (x 0) = some o := by
  have key : ∀ k i, i + k = n → iter body (x i) = some o := by
    intro k
    induction k with
    | zero => intro i hi; have : i = n := by omega
              subst this; exact iter_out he
    | succ k ih => intro i hi; rw [iter_eq, hs i (by omega)]; exact ih (i + 1) (by omega)
  exact key n 0 (by omega)
theorem i_lt {i n : Nat} (h : i < n) : decide ((i : Int) < (n : Int)) = true := by simpa using h
theorem i_ge {n : Nat} : ¬ (decide ((n : Int) < (n : Int)) = true) := by simp
theorem idx_at {α : Type} {L : List α} {i : Nat} (h : i < L.length) : idx L (i : Int) = some L[i] := idx_nat (List.getElem?_eq_getElem h)
theorem w_succ {i : Nat} (h : i ≤ 1000000) : IntKind.i64.wrap ((i : Int) + 1) = ((i + 1 : Nat) : Int) := by rw [w64 (by omega) (by omega)]; rfl
theorem i64n {i : Nat} (h : i ≤ 1000000000) : I64 (i : Int) := ⟨by omega, by omega⟩
structure OkI (a : itv_Itv) : Prop where
  lo : I64 a.Lo
  hi : I64 a.Hi
def iW (a : itv_Itv) : List UInt8 := itvW a.Lo a.Hi
theorem iW_len {a : itv_Itv} (h : OkI a) : (iW a).length ≤ 46 := itvW_len h.lo h.hi
def sepW (ls : List (List UInt8)) : List UInt8 := Lib.join ls [44, 32]
theorem sep_one (x : List UInt8) : sepW [x] = x := Lib.join_one x _
theorem sep_snoc (x : List UInt8) (ls : List (List UInt8)) (h : ls ≠ []) : sepW (ls ++ [x]) = sepW ls ++ ([44, 32] ++ x) := by
  cases ls with
  | nil => exact absurd rfl h
  | cons y ls =>
    unfold sepW
    rw [List.cons_append, Lib.join_cons, Lib.join_cons, List.append_assoc]
    congr 1
    unfold Lib.joinTail
    simp
theorem sep_len {ls : List (List UInt8)} {b : Nat} (h : ∀ x ∈ ls, x.length ≤ b) : (sepW ls).length ≤ ls.length * (b + 2) := by
  cases ls with
  | nil => simp [sepW, Lib.join_nil]
  | cons y ls =>
    unfold sepW
    rw [Lib.join_cons]
    have hy := h y List.mem_cons_self
    have ht : ∀ l : List (List UInt8), (∀ x ∈ l, x.length ≤ b) → (Lib.joinTail [44, 32] l).length ≤ l.length * (b + 2) := by
      intro l
      induction l with
      | nil => intro _; simp [Lib.joinTail]
      | cons z l ih =>
        intro hl
        have h1 := hl z List.mem_cons_self
        have h2 := ih fun x hx => hl x (List.mem_cons_of_mem _ hx)
        unfold Lib.joinTail at h2 ⊢
        simp only [List.map_cons, List.flatten_cons, List.length_append, List.length_cons, List.length_nil] at h2 ⊢
        rw [Nat.succ_mul]; omega
    have := ht ls fun x hx => h x (List.mem_cons_of_mem _ hx)
    simp only [List.length_append, List.length_cons]
    rw [Nat.succ_mul]; omega
theorem join_sep {ls : List (List UInt8)} (h0 : ls ≠ []) (h1 : ls.length ≤ 1000000) (h2 : (sepW ls).length ≤ 100000000) : join (ls.map bA) (ByteArray.mk #[44, 32]) = some (bA (sepW ls)) := by
  have e : joinB (ls.map bA) (ByteArray.mk #[44, 32]) = sepW ls := by
    unfold joinB sepW
    rw [List.map_map]
    congr 1
    have : ((fun x => x.data.toList) ∘ bA) = (id : List UInt8 → List UInt8) := by funext x; rfl
    rw [this, List.map_id]
  unfold join
  rw [e, if_pos ⟨by simpa using h0, by simp; omega, by omega⟩]
  rfl
/-! ### A state -/
def stW (a : trans_State) : List UInt8 := if a.N.None = true then [110, 101, 118, 101, 114] else if a.N.I = [] then [110, 111, 116, 104, 105, 110, 103] else sepW (a.N.I.map iW)
structure OkS (a : trans_State) : Prop where
  i : ∀ x ∈ a.N.I, OkI x
  n : a.N.I.length ≤ 10
theorem stW_len {a : trans_State} (h : OkS a) : (stW a).length ≤ 480 := by
  unfold stW
  split
  · simp
  · split
    · simp
    · have := sep_len (ls := a.N.I.map iW) (b := 46) (fun x hx => by
        obtain ⟨y, hy, rfl⟩ := List.mem_map.1 hx
        exact iW_len (h.i y hy))
      have h2 := h.n
      rw [List.length_map] at this
      omega
theorem report_state_eq {a : trans_State} (h : OkS a) : report_state a = some (bA (stW a)) := by
  have hn := h.n
  unfold report_state trans_Empty stW
  rw [sb]
  by_cases e : a.N.None = true
  · rw [if_pos e, if_pos e]; rfl
  · rw [if_neg e, if_neg e]
    have hl : iter (report_state_l2 a) (0, []) = some (.inr ((a.N.I.map iW).map bA)) := by
      refine iter_for (body := report_state_l2 a) a.N.I.length (fun i => ((i : Int), ((a.N.I.take i).map iW).map bA)) _ (fun i hi => ?_) ?_
      · unfold report_state_l2
        simp only
        rw [if_pos (i_lt hi), idx_at hi, sb, report_itv (h.i _ (List.getElem_mem hi)).lo (h.i _ (List.getElem_mem hi)).hi, sb, app_some (by simp; omega), sb, w_succ (by omega)]
        rw [List.take_succ_eq_append_getElem hi, List.map_append, List.map_append]
        rfl
      · unfold report_state_l2
        simp only
        rw [if_neg i_ge, List.take_length]
    rw [hl]
    show (if ((((a.N.I.map iW).map bA).length : Int) == 0) = true then _ else _) = _
    by_cases e2 : a.N.I = []
    · rw [e2, if_pos rfl, if_pos (by simp)]; rfl
    · have hne : a.N.I.length ≠ 0 := by simpa using e2
      rw [if_neg (by simp; exact e2), if_neg e2, join_sep (by simpa using e2) (by simp; omega) (by
        have := sep_len (ls := a.N.I.map iW) (b := 46) (fun x hx => by
          obtain ⟨y, hy, rfl⟩ := List.mem_map.1 hx
          exact iW_len (h.i y hy))
        rw [List.length_map] at this
        omega)]
      rfl
end Go.Proofs.YtjcbedgpmjgcdaaDoor.Abs
