/- Of all texts lex.Reserved and the reference's Reserved tell the same. -/
import Derived.Test.YtjcbedgpmjgcdaaDoorPLexx8
import Derived.Test.YtjcbedgpmjgcdaaDoorLexC
namespace Go.Proofs.YtjcbedgpmjgcdaaDoor.PureReserved
open Go.RowKit Go.Proofs.YtjcbedgpmjgcdaaDoor.Hand Go.Proofs.YtjcbedgpmjgcdaaDoorW.PrintWords Go.Proofs.YtjcbedgpmjgcdaaDoorW.PrintLast Go.Proofs.YtjcbedgpmjgcdaaDoorW.PrintMore
open LexA LexB LexC PLex

theorem rdOf_get (l : List ByteArray) (i : Nat) (h : i < l.length) : rdOf ByteArray.empty l (i : Int) = l[i] := by
  simp [rdOf, h]
theorem ref_l0 (s : ByteArray) (l : List ByteArray) (hl : l.length ≤ 1000) : ∀ (d i : Nat), l.length - i = d → i ≤ l.length →
    Ev (fun k => jetsamref01_Reserved.l0 k s l (i : Int)) (decide (s.data.toList ∈ (l.drop i).map (·.data.toList))) := by
  intro d
  induction d with
  | zero =>
    intro i hd hi
    refine ev_one (fun k => ?_)
    simp only [jetsamref01_Reserved.l0]
    rw [if_neg (by omega), List.drop_of_length_le (by omega)]; simp
  | succ d ih =>
    intro i hd hi
    have hlt : i < l.length := by omega
    have IH := ih (i + 1) (by omega) (by omega)
    have hw : wrap64 ((i : Int) + 1) = ((i + 1 : Nat) : Int) := by rw [wrap_id (by omega) (by omega)]; omega
    rw [List.drop_eq_getElem_cons hlt, List.map_cons]
    by_cases he : l[i].data.toList = s.data.toList
    · refine ev_one (fun k => ?_)
      simp only [jetsamref01_Reserved.l0]
      rw [if_pos (by omega), if_pos (by omega), rdOf_get l i hlt, Go.ByteArray.toList_eq, Go.ByteArray.toList_eq, if_pos he, he]; simp
    · refine Ev.step (f := fun k => jetsamref01_Reserved.l0 k s l ((i + 1 : Nat) : Int)) (fun k => ?_) (ev_eq IH ?_)
      · simp only [jetsamref01_Reserved.l0]
        rw [if_pos (by omega), if_pos (by omega), rdOf_get l i hlt, Go.ByteArray.toList_eq, Go.ByteArray.toList_eq, if_neg he, hw]
      · refine decide_eq_decide.mpr ?_
        rw [List.mem_cons]
        exact ⟨.inr, fun h => h.elim (fun h => absurd h.symm he) id⟩
theorem ref_reserved_ev (s : ByteArray) : Ev (fun k => jetsamref01_Reserved.f k s) (decide (s.data.toList ∈ resv)) := by
  unfold jetsamref01_Reserved.f jetsamref01_words.f
  exact ref_l0 s _ (by decide) 16 0 rfl (by decide)
theorem pure : jetsamlaw01_LexReserved.Pure := by
  intro s _
  refine Ev.rounds (r := true) ?_
  refine Ev.congr (f := fun k => (jetsamlaw01_reads.f k).bind fun t235 => if t235 = true then ((lex_Reserved.f k s).bind fun t236 => ((jetsamref01_Reserved.f k s).bind fun t237 => (some (t236 == t237)))) else some false) (fun k => rfl) ?_
  refine Ev.bind reads_ev ?_
  refine Ev.congr (f := fun k => (lex_Reserved.f k s).bind fun t236 => ((jetsamref01_Reserved.f k s).bind fun t237 => (some (t236 == t237)))) (fun k => by rw [if_pos rfl]) ?_
  exact Ev.bind (reserved_ev s) (Ev.bind (ref_reserved_ev s) (ev_eq (Ev.now _) (by simp)))
end Go.Proofs.YtjcbedgpmjgcdaaDoor.PureReserved
