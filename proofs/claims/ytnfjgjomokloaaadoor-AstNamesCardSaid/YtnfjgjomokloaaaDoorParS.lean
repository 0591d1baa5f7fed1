/- AstNames: the plain law. -/
import Derived.Test.YtnfjgjomokloaaaDoorParT
import Derived.Test.YtnfjgjomokloaaaDoorPlB
namespace Go.Proofs.YtnfjgjomokloaaaDoor.Abs.Wri
open Go Go.RowKit
set_option linter.unusedVariables false
set_option linter.unusedSimpArgs false
abbrev b0 : ByteArray := ByteArray.mk #[]
abbrev z0E : z02 := ⟨0, 0, b0, []⟩
abbrev z0C : z0x := ⟨0, z0E, z0E⟩
/-- The system, with twelve names. -/
def sN (a b c d e f g h i j k l : ByteArray) : z19 := ⟨[⟨a, 0, 1, b, c, [d]⟩], [⟨e, [⟨0, f, 0⟩]⟩], [⟨g, [h], [.mk 7 i b0 z0E z0C [] [] [], .mk 4 (ByteArray.mk #[99]) (ByteArray.mk #[97]) ⟨2, 0, j, []⟩ z0C [] [] [], .mk 5 (ByteArray.mk #[99]) b0 z0E z0C [] [] [.mk k l []]]⟩]⟩
section
variable {a b c d e f g h i j k l : ByteArray}
theorem z9f (h1 : a.size ≤ 4194304) (h2 : b.size ≤ 4194304) (h3 : c.size ≤ 4194304) (h4 : d.size ≤ 4194304) (h5 : e.size ≤ 4194304) (h6 : f.size ≤ 4194304) (h7 : g.size ≤ 4194304) (h8 : h.size ≤ 4194304) (h9 : i.size ≤ 4194304) (h10 : j.size ≤ 4194304) (h11 : k.size ≤ 4194304) (h12 : l.size ≤ 4194304) : zbs (cSys (sN a b c d e f g h i j k l)) := by
 have z0 : b0.size ≤ 4194304 := by decide
 have z1 : (ByteArray.mk #[99]).size ≤ 4194304 := by decide
 have z2 : (ByteArray.mk #[97]).size ≤ 4194304 := by decide
 simp only [sN, cSys, cCh, cRu, cMo, cPr, cL, cS, cE, cEs, cC, cA, zbs, okCh, okR, okP, okL, okS, okE, okEs, okC, okA, in64, List.map_nil, List.map_cons, List.mem_cons, List.not_mem_nil, or_false, forall_eq, h1, h2, h3, h4, h5, h6, h7, h8, h9, h10, h11, h12, z0, z1, z2, and_true, true_and, and_self, implies_true]
 omega
theorem z9g : zay (cSys (sN a b c d e f g h i j k l)) ≤ 100 := by
 simp [sN, cSys, cCh, cRu, cMo, cPr, cL, cS, cE, cEs, cC, cA, zay, sumN, szCh, szR, szP, szL, szS, szE, szEs, szC, szA]
theorem z55 (hn : zcz 0 = true) (hn1 : zcz 1 = true) (hc : z1v (ByteArray.mk #[99]) = true) (ha : z1v (ByteArray.mk #[97]) = true) :
  (endW (sSys (cSys (sN a b c d e f g h i j k l)))).2 = if z1v a && (z1v b && (z1v c && (z1v d && (z1v e && (z1v f && (z1v g && (z1v h && (z1v i && (z1v j && (z1v k && z1v l)))))))))) then 0 else 5 := by
 have e1 : (sSys (cSys (sN a b c d e f g h i j k l))).bad = !(z1v a && (z1v b && (z1v c && (z1v d && (z1v e && (z1v f && (z1v g && (z1v h && (z1v i && (z1v j && (z1v k && z1v l))))))))))) := by
  simp [sN, cSys, cCh, cRu, cMo, cPr, cL, cS, cE, cEs, cC, cA, sSys, z4j, sCh, sR, zd0, wTag, sP, wVar, sL, sS, sA, sE, inB, inP, z94, wW, wN, wI, wM, wD, Wr.nil, kindOk, hn, hn1, hc, ha, Bool.not_and, Bool.or_assoc]
 have e2 : (sSys (cSys (sN a b c d e f g h i j k l))).dp = false := by
  simp [sN, cSys, cCh, cRu, cMo, cPr, cL, cS, cE, cEs, cC, cA, sSys, z4j, sCh, sR, zd0, wTag, sP, wVar, sL, sS, sA, sE, inB, inP, z94, wW, wN, wI, wM, wD, Wr.nil, kindOk]
 have e3 : (sSys (cSys (sN a b c d e f g h i j k l))).ws.length ≤ 2000 := by
  simp [sN, cSys, cCh, cRu, cMo, cPr, cL, cS, cE, cEs, cC, cA, sSys, z4j, sCh, sR, zd0, wTag, sP, wVar, sL, sS, sA, sE, inB, inP, z94, wW, wN, wI, wM, wD, Wr.nil, kindOk]
 unfold endW
 rw [e1, e2]
 cases (z1v a && (z1v b && (z1v c && (z1v d && (z1v e && (z1v f && (z1v g && (z1v h && (z1v i && (z1v j && (z1v k && z1v l)))))))))))
 ·rfl
 ·simp only [Bool.not_true, Bool.false_eq_true, if_false, if_true]
  rw [if_neg (by omega)]
end
theorem zmm {v1 : ByteArray} (hs : v1.size ≤ 4194304) {R : Bool → Option Bool} : (z39 v1 >>= fun v3 => ((if (v3.2.2 == 0) then (if ((v3.1.length : Int) == 1) then (idx v3.1 0 >>= fun v4 => if (v4.Kind == 1) then (idx v3.1 0 >>= fun v5 => some (v5.Text.toList == v1.toList)) else (some false)) else (some false)) else (some false) : Option Bool) >>= fun j1 => R j1)) = R (z1v v1) := by
 rw [zo1 v1 hs]
 unfold z1v
 generalize finT v1.size (lexS v1.data.toList 0) = v
 obtain ⟨l, p, e⟩ := v
 simp only [Option.bind_eq_bind, Option.bind_some]
 by_cases he : e = 0
 ·subst he
  match l with
  | [] => simp
  | [t] =>
   have : idx [t] 0 = some t := rfl
   by_cases hk : t.Kind = 1
   ·simp [this, hk]
   ·have hk' : (t.Kind == 1) = false := by simpa using hk
    simp [this, hk, hk']
  | t :: t' :: r =>
   have h2 : ((r.length : Int) + 1 + 1 == 1) = false := by simp; omega
   simp [h2]
 ·have he' : (e == 0) = false := by simpa using he
  simp [he']
/-- One name of twelve. -/
theorem z3f {v1 : ByteArray} (hs : v1.size ≤ 20) {s : z19} (ho : zbs (cSys s)) (hz : zay (cSys s) ≤ 100) (hE : (endW (sSys (cSys s))).2 = if z1v v1 then 0 else 5) :
    (z39 v1 >>= fun v3 => ((if (v3.2.2 == 0) then (if ((v3.1.length : Int) == 1) then (idx v3.1 0 >>= fun v4 => if (v4.Kind == 1) then (idx v3.1 0 >>= fun v5 => some (v5.Text.toList == v1.toList)) else (some false)) else (some false)) else (some false) : Option Bool) >>= fun j1 =>
     z1o s >>= fun v6 => z2j v6 >>= fun v7 => z2b >>= fun v8 => if v8 then (if ((v7.2 == 0) == j1) then (if (v7.2 == 0) then (some true) else (some (v7.2 == 5))) else (some false)) else (some false))) = some true := by
  rw [zmm (by omega) (R := fun j1 => z1o s >>= fun v6 => z2j v6 >>= fun v7 => z2b >>= fun v8 => if v8 then (if ((v7.2 == 0) == j1) then (if (v7.2 == 0) then (some true) else (some (v7.2 == 5))) else (some false)) else (some false))]
  rw [zl4 (by omega)]
  simp only [Option.bind_eq_bind, Option.bind_some]
  rw [zo2 ho (by omega), zmn]
  simp only [Option.bind_some, if_true, hE]
  cases z1v v1 <;> rfl
theorem names_law (a0 : ByteArray) (a1 : Int) : z5q a0 a1 = some true := by
 unfold z5q
 have e : ssub a0 0 (min (a0.size : Int) 20) = some (a0.extract 0 (min a0.size 20)) := by
  have := zed (s := a0) (a := 0) (b := min a0.size 20) (Nat.zero_le _) (Nat.min_le_left _ _)
  rw [← this]
  congr 1
  omega
 have hs : (a0.extract 0 (min a0.size 20)).size ≤ 20 := by simp [ByteArray.size_extract]; omega
 rw [e]
 generalize a0.extract 0 (min a0.size 20) = v1 at hs
 have hu : 0 ≤ IntKind.u64.wrap a1 := by rw [IntKind.wrap_u64]; omega
 have hr : ∃ w : Nat, rem (IntKind.u64.wrap a1) 12 = some (w : Int) ∧ w < 12 := by
  refine ⟨((IntKind.u64.wrap a1) % 12).toNat, ?_, by omega⟩
  unfold rem; rw [if_neg (by decide), Int.tmod_eq_emod_of_nonneg hu]
  congr 1; omega
 obtain ⟨w, hw, hw12⟩ := hr
 simp only [Option.bind_eq_bind, Option.bind_some]
 rw [hw]
 simp only [Option.bind_some]
 have nc := z3o (b := 99) (by decide)
 have np := z3o (b := 112) (by decide)
 have nq := z3o (b := 113) (by decide)
 have na := z3o (b := 97) (by decide)
 have nx := z3o (b := 120) (by decide)
 have n0 : zcz 0 = true := by decide
 have n1 : zcz 1 = true := by decide
 have zc : (ByteArray.mk #[99]).size ≤ 4194304 := by decide
 have zp : (ByteArray.mk #[112]).size ≤ 4194304 := by decide
 have zq : (ByteArray.mk #[113]).size ≤ 4194304 := by decide
 have za : (ByteArray.mk #[97]).size ≤ 4194304 := by decide
 have zx : (ByteArray.mk #[120]).size ≤ 4194304 := by decide
 have zn : v1.size ≤ 4194304 := by omega
 have : w = 0 ∨ w = 1 ∨ w = 2 ∨ w = 3 ∨ w = 4 ∨ w = 5 ∨ w = 6 ∨ w = 7 ∨ w = 8 ∨ w = 9 ∨ w = 10 ∨ w = 11 := by omega
 rcases this with rfl | rfl | rfl | rfl | rfl | rfl | rfl | rfl | rfl | rfl | rfl | rfl
 ·rw [if_pos (by decide)]
  exact z3f hs (s := sN v1 (ByteArray.mk #[112]) (ByteArray.mk #[113]) (ByteArray.mk #[97]) (ByteArray.mk #[99]) (ByteArray.mk #[97]) (ByteArray.mk #[112]) (ByteArray.mk #[120]) (ByteArray.mk #[120]) (ByteArray.mk #[120]) (ByteArray.mk #[97]) (ByteArray.mk #[120])) (z9f zn zp zq za zc za zp zx zx zx za zx) z9g (by rw [z55 n0 n1 nc na]; simp [nc, np, nq, na, nx])
 ·rw [if_neg (by decide), if_pos (by decide)]
  exact z3f hs (s := sN (ByteArray.mk #[99]) v1 (ByteArray.mk #[113]) (ByteArray.mk #[97]) (ByteArray.mk #[99]) (ByteArray.mk #[97]) (ByteArray.mk #[112]) (ByteArray.mk #[120]) (ByteArray.mk #[120]) (ByteArray.mk #[120]) (ByteArray.mk #[97]) (ByteArray.mk #[120])) (z9f zc zn zq za zc za zp zx zx zx za zx) z9g (by rw [z55 n0 n1 nc na]; simp [nc, np, nq, na, nx])
 ·rw [if_neg (by decide), if_neg (by decide), if_pos (by decide)]
  exact z3f hs (s := sN (ByteArray.mk #[99]) (ByteArray.mk #[112]) v1 (ByteArray.mk #[97]) (ByteArray.mk #[99]) (ByteArray.mk #[97]) (ByteArray.mk #[112]) (ByteArray.mk #[120]) (ByteArray.mk #[120]) (ByteArray.mk #[120]) (ByteArray.mk #[97]) (ByteArray.mk #[120])) (z9f zc zp zn za zc za zp zx zx zx za zx) z9g (by rw [z55 n0 n1 nc na]; simp [nc, np, nq, na, nx])
 ·rw [if_neg (by decide), if_neg (by decide), if_neg (by decide), if_pos (by decide)]
  exact z3f hs (s := sN (ByteArray.mk #[99]) (ByteArray.mk #[112]) (ByteArray.mk #[113]) v1 (ByteArray.mk #[99]) (ByteArray.mk #[97]) (ByteArray.mk #[112]) (ByteArray.mk #[120]) (ByteArray.mk #[120]) (ByteArray.mk #[120]) (ByteArray.mk #[97]) (ByteArray.mk #[120])) (z9f zc zp zq zn zc za zp zx zx zx za zx) z9g (by rw [z55 n0 n1 nc na]; simp [nc, np, nq, na, nx])
 ·rw [if_neg (by decide), if_neg (by decide), if_neg (by decide), if_neg (by decide), if_pos (by decide)]
  exact z3f hs (s := sN (ByteArray.mk #[99]) (ByteArray.mk #[112]) (ByteArray.mk #[113]) (ByteArray.mk #[97]) v1 (ByteArray.mk #[97]) (ByteArray.mk #[112]) (ByteArray.mk #[120]) (ByteArray.mk #[120]) (ByteArray.mk #[120]) (ByteArray.mk #[97]) (ByteArray.mk #[120])) (z9f zc zp zq za zn za zp zx zx zx za zx) z9g (by rw [z55 n0 n1 nc na]; simp [nc, np, nq, na, nx])
 ·rw [if_neg (by decide), if_neg (by decide), if_neg (by decide), if_neg (by decide), if_neg (by decide), if_pos (by decide)]
  exact z3f hs (s := sN (ByteArray.mk #[99]) (ByteArray.mk #[112]) (ByteArray.mk #[113]) (ByteArray.mk #[97]) (ByteArray.mk #[99]) v1 (ByteArray.mk #[112]) (ByteArray.mk #[120]) (ByteArray.mk #[120]) (ByteArray.mk #[120]) (ByteArray.mk #[97]) (ByteArray.mk #[120])) (z9f zc zp zq za zc zn zp zx zx zx za zx) z9g (by rw [z55 n0 n1 nc na]; simp [nc, np, nq, na, nx])
 ·rw [if_neg (by decide), if_neg (by decide), if_neg (by decide), if_neg (by decide), if_neg (by decide), if_neg (by decide), if_pos (by decide)]
  exact z3f hs (s := sN (ByteArray.mk #[99]) (ByteArray.mk #[112]) (ByteArray.mk #[113]) (ByteArray.mk #[97]) (ByteArray.mk #[99]) (ByteArray.mk #[97]) v1 (ByteArray.mk #[120]) (ByteArray.mk #[120]) (ByteArray.mk #[120]) (ByteArray.mk #[97]) (ByteArray.mk #[120])) (z9f zc zp zq za zc za zn zx zx zx za zx) z9g (by rw [z55 n0 n1 nc na]; simp [nc, np, nq, na, nx])
 ·rw [if_neg (by decide), if_neg (by decide), if_neg (by decide), if_neg (by decide), if_neg (by decide), if_neg (by decide), if_neg (by decide), if_pos (by decide)]
  exact z3f hs (s := sN (ByteArray.mk #[99]) (ByteArray.mk #[112]) (ByteArray.mk #[113]) (ByteArray.mk #[97]) (ByteArray.mk #[99]) (ByteArray.mk #[97]) (ByteArray.mk #[112]) v1 (ByteArray.mk #[120]) (ByteArray.mk #[120]) (ByteArray.mk #[97]) (ByteArray.mk #[120])) (z9f zc zp zq za zc za zp zn zx zx za zx) z9g (by rw [z55 n0 n1 nc na]; simp [nc, np, nq, na, nx])
 ·rw [if_neg (by decide), if_neg (by decide), if_neg (by decide), if_neg (by decide), if_neg (by decide), if_neg (by decide), if_neg (by decide), if_neg (by decide), if_pos (by decide)]
  exact z3f hs (s := sN (ByteArray.mk #[99]) (ByteArray.mk #[112]) (ByteArray.mk #[113]) (ByteArray.mk #[97]) (ByteArray.mk #[99]) (ByteArray.mk #[97]) (ByteArray.mk #[112]) (ByteArray.mk #[120]) v1 (ByteArray.mk #[120]) (ByteArray.mk #[97]) (ByteArray.mk #[120])) (z9f zc zp zq za zc za zp zx zn zx za zx) z9g (by rw [z55 n0 n1 nc na]; simp [nc, np, nq, na, nx])
 ·rw [if_neg (by decide), if_neg (by decide), if_neg (by decide), if_neg (by decide), if_neg (by decide), if_neg (by decide), if_neg (by decide), if_neg (by decide), if_neg (by decide), if_pos (by decide)]
  exact z3f hs (s := sN (ByteArray.mk #[99]) (ByteArray.mk #[112]) (ByteArray.mk #[113]) (ByteArray.mk #[97]) (ByteArray.mk #[99]) (ByteArray.mk #[97]) (ByteArray.mk #[112]) (ByteArray.mk #[120]) (ByteArray.mk #[120]) v1 (ByteArray.mk #[97]) (ByteArray.mk #[120])) (z9f zc zp zq za zc za zp zx zx zn za zx) z9g (by rw [z55 n0 n1 nc na]; simp [nc, np, nq, na, nx])
 ·rw [if_neg (by decide), if_neg (by decide), if_neg (by decide), if_neg (by decide), if_neg (by decide), if_neg (by decide), if_neg (by decide), if_neg (by decide), if_neg (by decide), if_neg (by decide), if_pos (by decide)]
  exact z3f hs (s := sN (ByteArray.mk #[99]) (ByteArray.mk #[112]) (ByteArray.mk #[113]) (ByteArray.mk #[97]) (ByteArray.mk #[99]) (ByteArray.mk #[97]) (ByteArray.mk #[112]) (ByteArray.mk #[120]) (ByteArray.mk #[120]) (ByteArray.mk #[120]) v1 (ByteArray.mk #[120])) (z9f zc zp zq za zc za zp zx zx zx zn zx) z9g (by rw [z55 n0 n1 nc na]; simp [nc, np, nq, na, nx])
 ·rw [if_neg (by decide), if_neg (by decide), if_neg (by decide), if_neg (by decide), if_neg (by decide), if_neg (by decide), if_neg (by decide), if_neg (by decide), if_neg (by decide), if_neg (by decide), if_neg (by decide), if_pos (by decide)]
  exact z3f hs (s := sN (ByteArray.mk #[99]) (ByteArray.mk #[112]) (ByteArray.mk #[113]) (ByteArray.mk #[97]) (ByteArray.mk #[99]) (ByteArray.mk #[97]) (ByteArray.mk #[112]) (ByteArray.mk #[120]) (ByteArray.mk #[120]) (ByteArray.mk #[120]) (ByteArray.mk #[97]) v1) (z9f zc zp zq za zc za zp zx zx zx za zn) z9g (by rw [z55 n0 n1 nc na]; simp [nc, np, nq, na, nx])
end Go.Proofs.YtnfjgjomokloaaaDoor.Abs.Wri
