/- Plain law of ReportItvs: it answers true. -/
import Derived.Test.YtjcbedgpmjgcdaaDoorRepA
import Derived.Test.YtjcbedgpmjgcdaaDoorAbsV
namespace Go.Proofs.YtjcbedgpmjgcdaaDoor.Abs
open Go Go.RowKit
set_option linter.unusedVariables false
set_option linter.unusedSimpArgs false
theorem dd1 {i : Nat} (h : i < 10) : Lib.decDigits i = [UInt8.ofNat (48 + i)] := Lib.decDigits_one h
theorem it0 : Lib.itoa 0 = [48] := by unfold Lib.itoa; rw [if_neg (by omega)]; exact dd1 (i := 0) (by omega)
theorem it3 : Lib.itoa 3 = [51] := by unfold Lib.itoa; rw [if_neg (by omega)]; exact dd1 (i := 3) (by omega)
theorem it7 : Lib.itoa 7 = [55] := by unfold Lib.itoa; rw [if_neg (by omega)]; exact dd1 (i := 7) (by omega)
theorem itm2 : Lib.itoa (-2) = [45, 50] := by unfold Lib.itoa; rw [if_pos (by omega)]; exact congrArg (45 :: ·) (dd1 (i := 2) (by omega))
theorem i64 {n : Int} (h0 : -9223372036854775808 ≤ n) (h1 : n ≤ 9223372036854775807) : I64 n := ⟨h0, h1⟩
theorem iter_out {X O : Type} {body : X → Option (Sum X O)} {x : X} {r : O} (h : body x = some (.inr r)) : iter body x = some r := by rw [iter_eq, h]; rfl
theorem text_none : report_Text (outer_Result.mk [] [] [] 0) = some (bA [115, 116, 101, 112, 115, 32, 48, 10, 110, 111, 32, 97, 108, 97, 114, 109, 10]) := by
  unfold report_Text
  rw [itoa_eq (i64 (by decide) (by decide)), it0, sb]
  show (scat (bA [115, 116, 101, 112, 115, 32]) (bA [48]) >>= _) = _
  rw [scat_bA (by decide), sb, iter_out (r := .inr [bA ([115, 116, 101, 112, 115, 32] ++ [48])]) rfl]
  show (iter _ _ >>= _) = _
  rw [iter_out (r := .inr [bA ([115, 116, 101, 112, 115, 32] ++ [48])]) rfl]
  show (iter _ _ >>= _) = _
  rw [iter_out (r := .inr [bA ([115, 116, 101, 112, 115, 32] ++ [48])]) rfl]
  show (report_last ((([] : List fix_Alarm).length : Nat) : Int) >>= fun v28 => app 16 [bA ([115, 116, 101, 112, 115, 32] ++ [48])] [v28, ByteArray.mk #[]] >>= fun v29 => join v29 (ByteArray.mk #[10]) >>= fun v30 => some v30) = _
  rw [show report_last ((([] : List fix_Alarm).length : Nat) : Int) = some (bA [110, 111, 32, 97, 108, 97, 114, 109]) from rfl, sb, app_some (by decide), sb]
  unfold join
  rw [if_pos ⟨by simp, by decide, by decide⟩]
  rfl
theorem says_true : l17_says = some true := by
  have h1 : itv_Of (-2) 7 = some ⟨-2, 7⟩ := rfl
  have h2 : report_Itv ⟨-2, 7⟩ = some (ByteArray.mk #[45, 50, 32, 116, 111, 32, 55]) := by
    rw [report_itv (i64 (by decide) (by decide)) (i64 (by decide) (by decide))]
    unfold itvW
    rw [if_neg (by decide), if_neg (by decide), if_neg (by decide), itm2, it7]; rfl
  have h3 : report_Itv ⟨1, 0⟩ = some (ByteArray.mk #[110, 111, 110, 101]) := rfl
  have h4 : report_Alarm (fix_Alarm.mk 0 3 2) = some (ByteArray.mk #[111, 118, 101, 114, 102, 108, 111, 119, 32, 97, 116, 32, 112, 114, 111, 99, 101, 115, 115, 32, 48, 32, 101, 100, 103, 101, 32, 51]) := by
    rw [report_alarm (i64 (by decide) (by decide)) (i64 (by decide) (by decide))]
    unfold alarmW
    rw [it0, it3]; rfl
  unfold l17_says
  rw [h1, sb, h2, sb, if_pos (eqT _), show itv_None = some ⟨1, 0⟩ from rfl, sb, h3, sb, if_pos (eqT _), h4, sb, if_pos (eqT _), text_none, sb]
  exact congrArg some (eqT _)
theorem inK {n : Int} (h : InK .i64 n) : I64 n := ⟨h.lo, h.hi⟩
theorem wi32 (n : Int) : I64 (IntKind.i64.wrap (IntKind.i32.wrap n)) := by
  rw [IntKind.wrap_i64, IntKind.wrap_i32]; exact ⟨by omega, by omega⟩
theorem itvs_law (a : r08_Itv) (b : fix_Alarm) (h0 : I64 a.Lo) (h1 : I64 a.Hi) (h2 : I64 b.Proc) (h3 : I64 b.Edge) (h4 : I64 b.Kind) : l17_ReportItvs a b = some true := by
  obtain ⟨c, hc, hl, hh⟩ : ∃ c, r08_Bend a = some c ∧ I64 c.Lo ∧ I64 c.Hi := ⟨_, rfl, wi32 _, wi32 _⟩
  unfold l17_ReportItvs
  rw [hc, sb, says_true, sb, if_pos rfl, report_itv (a := ⟨a.Lo, a.Hi⟩) h0 h1, sb, ref_itv h0 h1, sb, if_pos (eqT _),
    report_itv (a := ⟨c.Lo, c.Hi⟩) hl hh, sb, ref_itv hl hh, sb, if_pos (eqT _), report_alarm h2 h3, sb, ref_alarm h2 h3 h4, sb, sb, eqT]
end Go.Proofs.YtjcbedgpmjgcdaaDoor.Abs
