/- AstLong: the plain law. -/
import Derived.Test.YtnfjgjomokloaaaDoorParT
namespace Go.Proofs.YtnfjgjomokloaaaDoor.Abs.Wri
open Go Go.RowKit
set_option linter.unusedVariables false
set_option linter.unusedSimpArgs false
def stX : z0c := (z0c.mk 7 (ByteArray.mk #[120]) (ByteArray.mk #[]) (z07.mk 0 0 (ByteArray.mk #[]) []) (z1u.mk 0 (z07.mk 0 0 (ByteArray.mk #[]) []) (z07.mk 0 0 (ByteArray.mk #[]) [])) [] [] [])
def sysX (k : Nat) : z22 := ⟨[], [], [⟨ByteArray.mk #[112], [], List.replicate k stX⟩]⟩
theorem zma : cS stX = .mk 7 (ByteArray.mk #[120]) (ByteArray.mk #[]) ⟨0, 0, ByteArray.mk #[], []⟩ ⟨0, ⟨0, 0, ByteArray.mk #[], []⟩, ⟨0, 0, ByteArray.mk #[], []⟩⟩ [] [] [] := by simp [stX, cS, cE, cEs, cC, cL, cA]
theorem sLX (hx : zay (ByteArray.mk #[120]) = true) : ∀ k, (sL (cL (List.replicate k stX)) 0 0).ws.length = 3 * k ∧ (sL (cL (List.replicate k stX)) 0 0).bad = false ∧ (sL (cL (List.replicate k stX)) 0 0).dp = false
 | 0 => by simp [cL, sL, Wr.nil]
 | k + 1 => by
  obtain ⟨h1, h2, h3⟩ := sLX hx k
  have e : sS (cS stX) 0 0 = wW [ByteArray.mk #[105, 110, 112, 117, 116]] ++ (wN (ByteArray.mk #[120]) ++ wW [ByteArray.mk #[59]]) := by rw [zma]; simp [sS]
  rw [List.replicate_succ]
  simp only [cL, sL, e, Wr.ws_app, Wr.bad_app, Wr.dp_app, List.length_append, h1, h2, h3]
  refine ⟨?_, ?_, rfl⟩
  ·simp only [wW, wN, List.length_cons, List.length_nil]; omega
  ·simp only [wW, wN, hx]; rfl
theorem okX : ∀ k, okL (cL (List.replicate k stX))
 | 0 => by simp only [List.replicate_zero, cL, okL]
 | k + 1 => by
  have := okX k
  rw [List.replicate_succ]
  simp only [cL, okL, this, and_true]
  rw [zma]
  simp only [okS, okE, okEs, okC, okL, okA, in64, and_true]
  have z0 : (ByteArray.mk #[]).size ≤ 4194304 := by decide
  have z1 : (ByteArray.mk #[120]).size ≤ 4194304 := by decide
  simp only [z0, z1, and_true, true_and]
  omega
theorem szX : ∀ k, szL (cL (List.replicate k stX)) ≤ 20 * k + 1
 | 0 => by simp [cL, szL]
 | k + 1 => by
  have := szX k
  have e : szS (cS stX) ≤ 20 := by rw [zma]; simp [szS, szE, szEs, szC, szL, szA]
  rw [List.replicate_succ]
  simp only [cL, szL]
  omega
theorem zmb {v : Nat} (hv : v < 10) : iter (z2c (v : Int)) (0, []) = some (.inr (List.replicate (660 + v) stX)) := by
 have hk : IntKind.i64.wrap (660 + IntKind.i64.wrap (v : Int)) = 660 + (v : Int) := by rw [w64 (n := (v : Int)) (by omega) (by omega), w64 (by omega) (by omega)]
 have h : ∀ d i, 660 + v - i = d → i ≤ 660 + v → iter (z2c (v : Int)) ((i : Int), List.replicate i stX) = some (.inr (List.replicate (660 + v) stX)) := by
  intro d
  induction d with
  | zero =>
   intro i hd hi
   have : i = 660 + v := by omega
   subst this
   refine z4r ?_
   unfold z2c
   rw [if_neg (by show ¬ (decide (((660 + v : Nat) : Int) < IntKind.i64.wrap (660 + IntKind.i64.wrap (v : Int))) = true); rw [hk]; simp)]
  | succ d ih =>
   intro i hd hi
   have hst : z2c (v : Int) ((i : Int), List.replicate i stX) = some (.inl (((i + 1 : Nat) : Int), List.replicate (i + 1) stX)) := by
    unfold z2c
    rw [if_pos (by show decide ((i : Int) < IntKind.i64.wrap (660 + IntKind.i64.wrap (v : Int))) = true; rw [hk]; simp; omega)]
    have ha : app 288 (List.replicate i stX) [stX] = some (List.replicate (i + 1) stX) := by rw [z66 (by simp; omega), List.replicate_succ']
    have hw : IntKind.i64.wrap ((i : Int) + 1) = ((i + 1 : Nat) : Int) := by rw [w64 (by omega) (by omega)]; omega
    have ha' : app 288 ((i : Int), List.replicate i stX).2 [(z0c.mk 7 (ByteArray.mk #[120]) (ByteArray.mk #[]) (z07.mk 0 0 (ByteArray.mk #[]) []) (z1u.mk 0 (z07.mk 0 0 (ByteArray.mk #[]) []) (z07.mk 0 0 (ByteArray.mk #[]) [])) [] [] [])] = some (List.replicate (i + 1) stX) := ha
    rw [ha']
    simp only [Option.bind_eq_bind, Option.bind_some, hw]
   rw [za7 hst]
   exact ih (i + 1) (by omega) (by omega)
 exact h _ 0 rfl (by omega)
theorem long_law (a0 : Int) : z60 a0 = some true := by
 unfold z60
 have hu : 0 ≤ IntKind.u64.wrap a0 := by rw [IntKind.wrap_u64]; omega
 have hr : ∃ v : Nat, rem (IntKind.u64.wrap a0) 10 = some (v : Int) ∧ v < 10 := by
  refine ⟨((IntKind.u64.wrap a0) % 10).toNat, ?_, by omega⟩
  unfold rem; rw [if_neg (by decide), Int.tmod_eq_emod_of_nonneg hu]
  congr 1; omega
 obtain ⟨v, hv, hv10⟩ := hr
 have hk : IntKind.i64.wrap (660 + IntKind.i64.wrap (v : Int)) = 660 + (v : Int) := by rw [w64 (n := (v : Int)) (by omega) (by omega), w64 (by omega) (by omega)]
 have hk3 : IntKind.i64.wrap (4 + IntKind.i64.wrap (3 * (660 + (v : Int)))) = 4 + 3 * (660 + (v : Int)) := by rw [w64 (n := 3 * (660 + (v : Int))) (by omega) (by omega), w64 (by omega) (by omega)]
 have np := z56 (b := 112) (by decide)
 have nx := z56 (b := 120) (by decide)
 obtain ⟨h1, h2, h3⟩ := sLX nx (660 + v)
 have hok : zk2 (cSys (sysX (660 + v))) := by
  refine ⟨fun c hc => by simp [cSys, sysX] at hc, fun c hc => by simp [cSys, sysX] at hc, fun c hc => ?_⟩
  have : c = cPr ⟨ByteArray.mk #[112], [], List.replicate (660 + v) stX⟩ := by simpa [cSys, sysX] using hc
  subst this
  exact ⟨by show (ByteArray.mk #[112]).size ≤ 4194304; decide, fun x hx => by simp [cPr] at hx, okX _⟩
 have hsz : zcp (cSys (sysX (660 + v))) ≤ 100000 := by
  have := szX (660 + v)
  simp only [cSys, sysX, zcp, List.map_cons, List.map_nil, sumN, szP, cPr, List.length_nil]
  omega
 have ew : (sSys (cSys (sysX (660 + v)))).ws.length = 4 + 3 * (660 + v) := by
  simp only [sSys, cSys, sysX, List.map_cons, List.map_nil, z44, Wr.ws_app, sP, cPr, List.length_append, h1, wW, wN, Wr.nil, List.length_cons, List.length_nil]
  omega
 have eb : (sSys (cSys (sysX (660 + v)))).bad = false := by
  simp only [sSys, cSys, sysX, List.map_cons, List.map_nil, z44, Wr.bad_app, sP, cPr, h2, wW, wN, Wr.nil, np]
  rfl
 have ed : (sSys (cSys (sysX (660 + v)))).dp = false := by
  simp only [sSys, cSys, sysX, List.map_cons, List.map_nil, z44, Wr.dp_app, sP, cPr, h3, wW, wN, Wr.nil]
  rfl
 rw [hv]
 simp only [Option.bind_eq_bind, Option.bind_some]
 rw [zmb hv10]
 simp only [Option.bind_some, Sum.elim_inr]
 rw [show z40 (z22.mk [] [] [(z5u.mk (ByteArray.mk #[112]) [] (List.replicate (660 + v) stX))]) = some (cSys (sysX (660 + v))) from zks (s := sysX (660 + v)) (by omega)]
 simp only [Option.bind_some]
 rw [zii hok (by omega), zmc, hk, hk3]
 simp only [Option.bind_some, if_true]
 unfold endW
 rw [eb, ed]
 simp only [Bool.false_eq_true, if_false]
 by_cases hl : 2000 < (sSys (cSys (sysX (660 + v)))).ws.length
 ·rw [if_pos hl]
  have e : decide (4 + 3 * (660 + (v : Int)) > 2000) = true := by simp; omega
  simp only [e, if_true]
  rfl
 ·rw [if_neg hl]
  have e : decide (4 + 3 * (660 + (v : Int)) > 2000) = false := by simp; omega
  have e2 : (((sSys (cSys (sysX (660 + v)))).ws.length : Int) == 4 + 3 * (660 + (v : Int))) = true := by rw [ew]; simp
  simp only [e, Bool.false_eq_true, if_false, beq_self_eq_true, if_true, e2]
end Go.Proofs.YtnfjgjomokloaaaDoor.Abs.Wri
