/- Of all texts lex.Lex and the reference's Lex tell the same words, or the same error: the laws' pure statements (LexReads, LexSigns). -/
import Derived.Test.YtjcbedgpmjgcdaaDoorPLexx7
import Derived.Test.YtjcbedgpmjgcdaaDoorLexR
import Derived.Test.YtjcbedgpmjgcdaaDoorPureBase
namespace Go.Proofs.YtjcbedgpmjgcdaaDoor.PureReads
open Go.RowKit Go.Proofs.YtjcbedgpmjgcdaaDoor.Hand Go.Proofs.YtjcbedgpmjgcdaaDoorW.PrintWords Go.Proofs.YtjcbedgpmjgcdaaDoorW.PrintLast Go.Proofs.YtjcbedgpmjgcdaaDoorW.PrintMore
open LexA LexB LexC PLex PureLong PureNames PureBlanks LexR

theorem reads_l1 (l : List Tok) (hl : l.length ≤ 1000000) : ∀ (d i : Nat), l.length - i = d → i ≤ l.length →
    Ev (fun k => jetsamlaw01_LexReads.l1 k (l.map t67) (l.map t68) (i : Int)) true := by
  intro d
  induction d with
  | zero =>
    intro i hd hi
    refine ev_one (fun k => ?_)
    simp only [jetsamlaw01_LexReads.l1]
    rw [if_neg (by simp; omega)]
  | succ d ih =>
    intro i hd hi
    have hlt : i < l.length := by omega
    have hw : wrap64 ((i : Int) + 1) = ((i + 1 : Nat) : Int) := by rw [wrap_id (by omega) (by omega)]; omega
    refine Ev.step (f := fun k => jetsamlaw01_LexReads.l1 k (l.map t67) (l.map t68) ((i + 1 : Nat) : Int)) (fun k => ?_) (ih (i + 1) (by omega) (by omega))
    simp only [jetsamlaw01_LexReads.l1]
    have q0 : (t67 l[i]).f0 = (t68 l[i]).f0 := rfl
    have q1 : (t67 l[i]).f1 = (t68 l[i]).f1 := rfl
    have q2 : (t67 l[i]).f2 = (t68 l[i]).f2 := rfl
    have q3 : (t67 l[i]).f3 = (t68 l[i]).f3 := rfl
    rw [if_pos (by simp; omega), if_pos (by omega), if_pos (by simp; omega), rd67 l i hlt, rd68 l i hlt, hw, if_pos q0, q1, if_pos rfl, if_pos q2, if_pos q3]
theorem reads_j1 (s : ByteArray) (hs : s.size ≤ 1000000) : Ev (fun k => jetsamlaw01_LexReads.j1 k s) true := by
  have h1 := lex_ev s hs
  have h2 := ref_ev s hs
  have hat := (lexS_at s.data.toList _ rfl 0).1
  rw [size_list] at hat
  have htl := told_len s.size (lexS s.data.toList 0)
  refine Ev.step (f := fun k => (lex_Lex.f k s).bind fun bt175 => ((jetsamref01_Lex.f k s).bind fun bt180 => ((jetsamlaw01_reads.f k).bind fun t185 => (if t185 = true then (if bt175.2.1 = bt180.2.1 then (if bt175.2.2 = bt180.2.2 then (jetsamlaw01_LexReads.j2 k bt175.1 bt180.1 ((bt175.1.length : Int) != (bt180.1.length : Int))) else (jetsamlaw01_LexReads.j2 k bt175.1 bt180.1 true)) else (jetsamlaw01_LexReads.j2 k bt175.1 bt180.1 true)) else (jetsamlaw01_LexReads.j2 k bt175.1 bt180.1 true))))) (fun k => by simp only [jetsamlaw01_LexReads.j1]) ?_
  refine Ev.bind h1 (Ev.bind h2 (Ev.bind reads_ev (Ev.congr (fun k => if_pos rfl) ?_)))
  simp only [fin67, fin68]
  generalize told s.size (lexS s.data.toList 0) = z at htl
  obtain ⟨l, p, e⟩ := z
  dsimp only at htl ⊢
  refine Ev.congr (f := fun k => jetsamlaw01_LexReads.j2 k (l.map t67) (l.map t68) false) (fun k => by simp) ?_
  refine Ev.step (f := fun k => jetsamlaw01_LexReads.l1 k (l.map t67) (l.map t68) ((0 : Nat) : Int)) (fun k => by simp only [jetsamlaw01_LexReads.j2]; rw [if_neg (by decide)]; rfl) ?_
  exact reads_l1 l (by omega) l.length 0 (by omega) (by omega)
theorem reads_l0 : ∀ (d : Nat) (s : ByteArray), 2100 - s.size = d → s.size ≤ 4200 → Ev (fun k => jetsamlaw01_LexReads.l0 k s) true := by
  intro d
  induction d using Nat.strongRecOn with
  | _ d ih =>
  intro s hd hs
  have hm : mn (s.size : Int) 2100 = ((min s.size 2100 : Nat) : Int) := mn_nat s.size 2100
  have fin : ∀ k, (if 0 ≤ (mn (s.size : Int) 2100) then (if (mn (s.size : Int) 2100) ≤ (s.size : Int) then (jetsamlaw01_LexReads.j1 k (s.extract 0 ((mn (s.size : Int) 2100) : Int).toNat)) else (none)) else (none)) = jetsamlaw01_LexReads.j1 k (s.extract 0 (min s.size 2100)) := by
    intro k; rw [hm, if_pos (by omega), if_pos (by omega), Int.toNat_natCast]
  have hj := reads_j1 (s.extract 0 (min s.size 2100)) (by rw [ByteArray.size_extract]; omega)
  by_cases h1 : s.size < 2100
  · by_cases h2 : 0 < s.size
    · have hss : (s ++ s).size = s.size + s.size := ByteArray.size_append
      refine Ev.step (f := fun k => jetsamlaw01_LexReads.l0 k (s ++ s)) (fun k => ?_) (ih (2100 - (s ++ s).size) (by omega) (s ++ s) rfl (by omega))
      rw [jetsamlaw01_LexReads.l0_eq, if_pos (by omega), if_pos (by omega), if_pos (by omega)]
    · refine Ev.step (fun k => ?_) hj
      rw [jetsamlaw01_LexReads.l0_eq, if_pos (by omega), if_neg (by omega), fin]
  · refine Ev.step (fun k => ?_) hj
    rw [jetsamlaw01_LexReads.l0_eq, if_neg (by omega), fin]
theorem reads_pure : jetsamlaw01_LexReads.Pure := by
  intro a b ha hb
  refine Ev.rounds (r := true) ?_
  unfold jetsamlaw01_LexReads.f
  have hm : mn (a.size : Int) 300 = ((min a.size 300 : Nat) : Int) := mn_nat a.size 300
  rw [hm]
  have hsz : (a.extract 0 (min a.size 300)).size ≤ 300 := by rw [ByteArray.size_extract]; omega
  by_cases hc : wrap64 (Int.tmod (IntKind.u64.wrap b) 40) = 39
  · refine Ev.congr (fun k => ?_) (reads_l0 _ (a.extract 0 (min a.size 300)) rfl (by omega))
    rw [if_pos (by omega), if_pos (by omega), if_pos hc, Int.toNat_natCast]
  · refine Ev.congr (fun k => ?_) (reads_j1 (a.extract 0 (min a.size 300)) (by omega))
    rw [if_pos (by omega), if_pos (by omega), if_neg hc, Int.toNat_natCast]

end Go.Proofs.YtjcbedgpmjgcdaaDoor.PureReads
