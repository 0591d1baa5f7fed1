/- The text that each Ast law asks for. -/
import Derived.Test.YtnfjgjomokloaaaDoorPlB
namespace Go.Proofs.YtnfjgjomokloaaaDoor.Abs.Wri
open Go Go.RowKit
set_option linter.unusedVariables false
set_option linter.unusedSimpArgs false
/-! ### The text -/
def za8 : z22 := (z22.mk [] [] [(z5u.mk (ByteArray.mk #[112]) [] [(z0c.mk 1 (ByteArray.mk #[120]) (ByteArray.mk #[]) (z07.mk 6 0 (ByteArray.mk #[]) [(z07.mk 4 0 (ByteArray.mk #[]) [(z07.mk 2 0 (ByteArray.mk #[97]) []), (z07.mk 1 1 (ByteArray.mk #[]) [])]), (z07.mk 1 2 (ByteArray.mk #[]) [])]) (z1u.mk 0 (z07.mk 0 0 (ByteArray.mk #[]) []) (z07.mk 0 0 (ByteArray.mk #[]) [])) [] [] [])])])
theorem zcq : endW (sSys (cSys za8)) = ([ByteArray.mk #[112, 114, 111, 99], ByteArray.mk #[112], ByteArray.mk #[123], ByteArray.mk #[120], ByteArray.mk #[61], ByteArray.mk #[40], ByteArray.mk #[97], ByteArray.mk #[43], ByteArray.mk #[49], ByteArray.mk #[41], ByteArray.mk #[42], ByteArray.mk #[50], ByteArray.mk #[59], ByteArray.mk #[125]], 0) := by
 have h1 := z56 (b := 112) (by decide)
 have h2 := z56 (b := 120) (by decide)
 have h3 := z56 (b := 97) (by decide)
 simp [za8, cSys, cPr, cL, cS, cE, cEs, cC, cA, sSys, z44, sP, sL, sS, sE, inP, zcr, wW, wN, wI, wM, wD, Wr.nil, endW, sumK, z5g, zcs, h1, h2, h3, zon, zoo, zk3]
theorem zij : zk2 (cSys za8) := by
 have z0 : (ByteArray.mk #[]).size ≤ 4194304 := by decide
 have z1 : (ByteArray.mk #[112]).size ≤ 4194304 := by decide
 have z2 : (ByteArray.mk #[120]).size ≤ 4194304 := by decide
 have z3 : (ByteArray.mk #[97]).size ≤ 4194304 := by decide
 simp only [za8, cSys, cPr, cL, cS, cE, cEs, cC, cA, zk2, okP, okL, okS, okE, okEs, okC, okA, in64, List.map_nil, List.map_cons, List.mem_cons, List.not_mem_nil, or_false, forall_eq, z0, z1, z2, z3]
 simp
theorem zct : zcp (cSys za8) ≤ 100 := by
 simp [za8, cSys, cPr, cL, cS, cE, cEs, cC, cA, zcp, sumN, szP, szL, szS, szE, szEs, szC, szA]
theorem zmc : z5o = some true := by
 unfold z5o
 show (z40 za8 >>= _) = _
 rw [zks (by have := zct; omega)]
 simp only [Option.bind_eq_bind, Option.bind_some]
 unfold z9a
 rw [zii zij (by have := zct; omega), zcq]
 simp only [Option.bind_eq_bind, Option.bind_some]
 rw [if_pos (by decide)]
 simp only [Option.bind_some, Go.ByteArray.toList_eq]
 rfl
end Go.Proofs.YtnfjgjomokloaaaDoor.Abs.Wri
