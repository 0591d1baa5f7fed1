/- A row of an array of arrays that is a value. -/
import Derived.Test.YtaaihamelknhdaaGreatDoorAbsT
namespace Go.Proofs.YtaaihamelknhdaaGreatDoor.Abs
open Go Go.RowKit
set_option linter.unusedVariables false
set_option linter.unusedSimpArgs false
section
variable {P : Program} {G : Nat → Option (List PV)} {o : Oper} {n m : Nat} {env : List (Nat × List XV)} {st : Store}
variable {α : Type} {e : α → PV} {D2 : Nat → Nat → α} {n1 n2 k : Nat} {cs ys : List BV}
theorem ixA {T E : TypeId} {x ix : Operand} {kk : IntKind} {i : Int} (ho : o.op = .index T x ix) (hu : P.underlying T = some (.array n1 E)) (hT : Ty P E true n2)
    (hx : val G env x = some (.agg cs)) (hi : val G env ix = some (.c (.pv (.int kk i)))) (hc : cs = (([] : List PV) ++ (ar n1 (fun i => ar n2 fun j => [e (D2 i j)]) ++ [])).map BV.pv) (h : inA n1 i = some k) (hy : (ar n2 fun j => [e (D2 k j)]).map BV.pv = ys) : LtT P G o ⟨n, m, env, st⟩ [.agg ys] := by
  obtain ⟨h0, h1, rfl⟩ := inAE h
  intro En η J a w hr
  obtain ⟨vs, h2, h3⟩ := hr.val hx
  have h4 := rd_int (hr.val hi)
  have h5 := atR (k1 := i.toNat) hc (by omega) hy
  rw [List.length_nil, Nat.zero_add] at h5
  have h6 := (h3.drop (i.toNat * n2)).take n2
  rw [h5] at h6
  have hl : ys.length = n2 := by rw [← hy, List.length_map, ar_len (sz := 1) (fun _ => rfl), Nat.mul_one]
  have hl2 : ((vs.drop (i.toNat * n2)).take n2).length = n2 := by rw [← h6.len, hl]
  refine ⟨.agg ((vs.drop (i.toNat * n2)).take n2).toArray, ?_, ⟨_, rfl, h6⟩⟩
  have h8 := run_sizeOf' hT w
  have h9 := run_isAgg' hT w
  have hle : i.toNat * n2 + n2 ≤ vs.length := by
    have hlen := h3.len
    rw [hc, List.length_map, List.nil_append, List.append_nil, ar_len (sz := n2) (fun i => by rw [ar_len (sz := 1) (fun _ => rfl), Nat.mul_one])] at hlen
    have : (i.toNat + 1) * n2 ≤ n1 * n2 := Nat.mul_le_mul_right n2 (by omega)
    rw [Nat.succ_mul] at this
    omega
  have he : (vs.toArray.extract (i.toNat * n2) (i.toNat * n2 + n2)) = ((vs.drop (i.toNat * n2)).take n2).toArray := by
    apply Array.ext'
    simp [List.extract_eq_take_drop]
  simp [execOp, ho, h2, h4, Instr.index, asIntOf, run_underlying hu, h0, h1, h8, part, h9, he]
end
end Go.Proofs.YtaaihamelknhdaaGreatDoor.Abs
