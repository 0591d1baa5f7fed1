/- The law's own first look ('reads') holds, and lex.Reserved and the reference's Reserved tell the same. -/
import Derived.Test.YtjcbedgpmjgcdaaDoorPLexx6
import Derived.Test.YtjcbedgpmjgcdaaDoorLexB
namespace Go.Proofs.YtjcbedgpmjgcdaaDoor.LexC
open Go.RowKit Go.Proofs.YtjcbedgpmjgcdaaDoor.Hand Go.Proofs.YtjcbedgpmjgcdaaDoorW.PrintWords Go.Proofs.YtjcbedgpmjgcdaaDoorW.PrintLast Go.Proofs.YtjcbedgpmjgcdaaDoorW.PrintMore
open LexA LexB PLex

theorem lex1 : lexS [120, 61, 49, 48, 59] 0 = ([⟨1, [120], 0, 0⟩, ⟨3, [61], 0, 1⟩, ⟨2, [49, 48], 10, 2⟩, ⟨3, [59], 0, 4⟩], none) := by
  rw [lexS_ok (w := ⟨1, 1, 0⟩) rfl rfl]
  show (_ :: (lexS [61, 49, 48, 59] 1).1, (lexS [61, 49, 48, 59] 1).2) = _
  rw [lexS_ok (w := ⟨3, 1, 0⟩) rfl rfl]
  show (_ :: (_ :: (lexS [49, 48, 59] 2).1), (lexS [49, 48, 59] 2).2) = _
  rw [lexS_ok (w := ⟨2, 2, 10⟩) rfl rfl]
  show (_ :: (_ :: (_ :: (lexS [59] 4).1)), (lexS [59] 4).2) = _
  rw [lexS_ok (w := ⟨3, 1, 0⟩) rfl rfl]
  show (_ :: (_ :: (_ :: (_ :: (lexS [] 5).1))), (lexS [] 5).2) = _
  rw [lexS_nil]; rfl
theorem lex2 : lexS [32, 48, 49] 0 = ([], some (1, 3)) := by
  rw [lexS_blank _ _ rfl, lexS_error (e := 3) rfl rfl]
theorem reads_ev : Ev (fun k => jetsamlaw01_reads.f k) true := by
  have h1 := lex_ev (⟨#[120, 61, 49, 48, 59]⟩ : ByteArray) (by decide)
  have h2 := lex_ev (⟨#[32, 48, 49]⟩ : ByteArray) (by decide)
  rw [lex1] at h1
  rw [lex2] at h2
  refine Ev.bind h1 (Ev.bind h2 ?_)
  refine ⟨0, fun k _ => ?_⟩
  simp [fin67, told, t67, rd_T67, Go.ByteArray.toList_eq]
end Go.Proofs.YtjcbedgpmjgcdaaDoor.LexC
