/- The text that each Ast law asks for. -/
import Derived.Test.YtnfjgjomokloaaaDoorPlB
namespace Go.Proofs.YtnfjgjomokloaaaDoor.Abs.Wri
open Go Go.RowKit
set_option linter.unusedVariables false
set_option linter.unusedSimpArgs false
/-! ### The text -/
def zaj : z19 := (z19.mk [] [] [(z2w.mk (ByteArray.mk #[112]) [] [(z0b.mk 1 (ByteArray.mk #[120]) (ByteArray.mk #[]) (z02.mk 6 0 (ByteArray.mk #[]) [(z02.mk 4 0 (ByteArray.mk #[]) [(z02.mk 2 0 (ByteArray.mk #[97]) []), (z02.mk 1 1 (ByteArray.mk #[]) [])]), (z02.mk 1 2 (ByteArray.mk #[]) [])]) (z0x.mk 0 (z02.mk 0 0 (ByteArray.mk #[]) []) (z02.mk 0 0 (ByteArray.mk #[]) [])) [] [] [])])])
theorem zd1 : endW (sSys (cSys zaj)) = ([ByteArray.mk #[112, 114, 111, 99], ByteArray.mk #[112], ByteArray.mk #[123], ByteArray.mk #[120], ByteArray.mk #[61], ByteArray.mk #[40], ByteArray.mk #[97], ByteArray.mk #[43], ByteArray.mk #[49], ByteArray.mk #[41], ByteArray.mk #[42], ByteArray.mk #[50], ByteArray.mk #[59], ByteArray.mk #[125]], 0) := by
 have h1 := z3o (b := 112) (by decide)
 have h2 := z3o (b := 120) (by decide)
 have h3 := z3o (b := 97) (by decide)
 simp [zaj, cSys, cPr, cL, cS, cE, cEs, cC, cA, sSys, z4j, sP, sL, sS, sE, inP, z94, wW, wN, wI, wM, wD, Wr.nil, endW, sumK, z5w, zaz, h1, h2, h3, zp0, zp1, zcz]
theorem zit : zbs (cSys zaj) := by
 have z0 : (ByteArray.mk #[]).size ≤ 4194304 := by decide
 have z1 : (ByteArray.mk #[112]).size ≤ 4194304 := by decide
 have z2 : (ByteArray.mk #[120]).size ≤ 4194304 := by decide
 have z3 : (ByteArray.mk #[97]).size ≤ 4194304 := by decide
 simp only [zaj, cSys, cPr, cL, cS, cE, cEs, cC, cA, zbs, okP, okL, okS, okE, okEs, okC, okA, in64, List.map_nil, List.map_cons, List.mem_cons, List.not_mem_nil, or_false, forall_eq, z0, z1, z2, z3]
 simp
theorem zd2 : zay (cSys zaj) ≤ 100 := by
 simp [zaj, cSys, cPr, cL, cS, cE, cEs, cC, cA, zay, sumN, szP, szL, szS, szE, szEs, szC, szA]
theorem zmn : z2b = some true := by
 unfold z2b
 show (z1o zaj >>= _) = _
 rw [zl4 (by have := zd2; omega)]
 simp only [Option.bind_eq_bind, Option.bind_some]
 unfold z2j
 rw [ziu zit (by have := zd2; omega), zd1]
 simp only [Option.bind_eq_bind, Option.bind_some]
 rw [if_pos (by decide)]
 simp only [Option.bind_some, Go.ByteArray.toList_eq]
 rfl
end Go.Proofs.YtnfjgjomokloaaaDoor.Abs.Wri
