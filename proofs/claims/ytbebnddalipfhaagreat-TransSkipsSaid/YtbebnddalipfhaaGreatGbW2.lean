/- Gb: the walks. -/
import Derived.Test.YtbebnddalipfhaaGreatGbW1
namespace Go.Proofs.YtbebnddalipfhaaGreat.Abs
open Go Go.RowKit
set_option linter.unusedVariables false
set_option maxRecDepth 100000
set_option maxHeartbeats 4000000
theorem zone_moved_meets {a0 : zone_Zone} {a1 : Int} {a2 : Int} {r : zone_Zone} (h : zone_moved a0 a1 a2 = some r) : MeetsV Tryz.prog GG 239 [.agg (bs (e_zone_Zone a0)), .c (.pv (.int .i64 a1)), .c (.pv (.int .i64 a2))] [.agg (bs (e_zone_Zone r))] := by
  refine MeetsS.toV (meetsW_of (st0 := []) (N := 41) r_zone_moved o_zone_moved r Tryz.func239 rfl rfl rfl (by dsimp only [argEnv]) rfl ?_) rfl
  unfold zone_moved at h
  refine seq_ ?_
  refine region_ ?_
  refine B rfl rfl (bir_box rfl rfl rfl) rfl rfl .z ?_
  refine B rfl rfl (bir_alloc rfl z62 rfl rfl) rfl rfl (.s .z) ?_
  refine ops_nil ?_
  refine then_ ?_
  refine seq_ ?_
  refine seq_ ?_
  refine region_ ?_
  refine R tbok 1 [7, 6, 3, 1, 2] [(7, [.c (.pv (.int .i64 0))]), (6, [.c (.box 1 0)]), (3, [.c (.box 0 0)]), (1, [.c (.pv (.int .i64 a1))]), (2, [.c (.pv (.int .i64 a2))])] (by kernel_rfl) ?_
  refine ops_nil ?_
  refine then_ ?_
  refine lp_ (Qr := RW Tryz.prog GG Tryz.f239 0 r_zone_moved o_zone_moved) (zone_moved_l1 a1 a2) (fun (x1 : (Int × zone_Zone)) => (⟨41, 0, [(1, [.c (.pv (.int .i64 a1))]), (2, [.c (.pv (.int .i64 a2))]), (3, [.c (.box 0 0)]), (6, [.c (.box 1 0)]), (7, [.c (.pv (.int .i64 x1.1))])], [some (.box true 62 (bs (e_zone_Zone x1.2))), some (.box true 62 (bs (e_zone_Zone (zone_Zone.mk 0 false (arr (arr 0 []) [(arr 0 [0, 0, 0, 0, 0, 0, 0]), (arr 0 [0, 0, 0, 0, 0, 0, 0]), (arr 0 [0, 0, 0, 0, 0, 0, 0]), (arr 0 [0, 0, 0, 0, 0, 0, 0]), (arr 0 [0, 0, 0, 0, 0, 0, 0]), (arr 0 [0, 0, 0, 0, 0, 0, 0]), (arr 0 [0, 0, 0, 0, 0, 0, 0])])))))]⟩ : Sx)) (fun (j1 : zone_Zone) => (⟨41, 0, [(3, [.c (.box 0 0)]), (6, [.c (.box 1 0)])], [some (.box true 62 (bs (e_zone_Zone j1))), some (.box true 62 (bs (e_zone_Zone (zone_Zone.mk 0 false (arr (arr 0 []) [(arr 0 [0, 0, 0, 0, 0, 0, 0]), (arr 0 [0, 0, 0, 0, 0, 0, 0]), (arr 0 [0, 0, 0, 0, 0, 0, 0]), (arr 0 [0, 0, 0, 0, 0, 0, 0]), (arr 0 [0, 0, 0, 0, 0, 0, 0]), (arr 0 [0, 0, 0, 0, 0, 0, 0]), (arr 0 [0, 0, 0, 0, 0, 0, 0])])))))]⟩ : Sx)) (0, a0) RW.only h wT ?_ (fun x1 o h => ?_) (fun r h s' hs => ?_) (fun j1 h => ?_)
  · refine w_sub (env' := [(1, [.c (.pv (.int .i64 a1))]), (2, [.c (.pv (.int .i64 a2))]), (3, [.c (.box 0 0)]), (6, [.c (.box 1 0)]), (7, [.c (.pv (.int .i64 0))])]) (sub_cons rfl (sub_cons rfl (sub_cons rfl (sub_cons rfl (sub_cons rfl sub_nil))))) ?_
    exact wkE (by kernel_rfl) (by kernel_rfl)
  · unfold zone_moved_l1 at h
    refine seq_ ?_
    refine seq_ ?_
    refine region_ ?_
    refine R tbok 4 [11, 1, 2, 3, 6, 7] [(11, [.c (.pv (.bool (decide (x1.1 ≤ x1.2.N))))]), (1, [.c (.pv (.int .i64 a1))]), (2, [.c (.pv (.int .i64 a2))]), (3, [.c (.box 0 0)]), (6, [.c (.box 1 0)]), (7, [.c (.pv (.int .i64 x1.1))])] (by kernel_rfl) ?_
    refine ops_nil ?_
    refine then_ ?_
    refine cond_ (b := (decide (x1.1 ≤ x1.2.N))) rfl (fun k1 => ?_) (fun k1 => ?_)
    · have h := iteT h k1
      refine skip_ ?_
      refine then_ ?_
      refine seq_ ?_
      refine jn_ (fun (j2 : zone_Zone) => (⟨41, 0, [(1, [.c (.pv (.int .i64 a1))]), (2, [.c (.pv (.int .i64 a2))]), (3, [.c (.box 0 0)]), (6, [.c (.box 1 0)]), (7, [.c (.pv (.int .i64 x1.1))])], [some (.box true 62 (bs (e_zone_Zone j2))), some (.box true 62 (bs (e_zone_Zone (zone_Zone.mk 0 false (arr (arr 0 []) [(arr 0 [0, 0, 0, 0, 0, 0, 0]), (arr 0 [0, 0, 0, 0, 0, 0, 0]), (arr 0 [0, 0, 0, 0, 0, 0, 0]), (arr 0 [0, 0, 0, 0, 0, 0, 0]), (arr 0 [0, 0, 0, 0, 0, 0, 0]), (arr 0 [0, 0, 0, 0, 0, 0, 0]), (arr 0 [0, 0, 0, 0, 0, 0, 0])])))))]⟩ : Sx)) h wT (fun o h => ?_) (fun j2 h => ?_)
      · refine block_ ?_
        refine seq_ ?_
        refine region_ ?_
        refine R tbok 3 [16, 1, 2, 3, 6, 7] [(16, [.c (.pv (.bool (x1.1 != a1)))]), (1, [.c (.pv (.int .i64 a1))]), (2, [.c (.pv (.int .i64 a2))]), (3, [.c (.box 0 0)]), (6, [.c (.box 1 0)]), (7, [.c (.pv (.int .i64 x1.1))])] (by kernel_rfl) ?_
        refine ops_nil ?_
        refine then_ ?_
        refine cond_ (b := (x1.1 != a1)) rfl (fun k2 => ?_) (fun k2 => ?_)
        · have h := iteT h k2
          refine seq_ ?_
          refine drawn_ mixed ?_
          refine dl (t := 17) 0 [.c (.pv (.int .i64 a1))] rfl ?_
          refine dl (t := 18) 1 [.c (.pv (.int .i64 x1.1))] rfl ?_
          refine dl (t := 19) 2 [.c (.box 0 2)] rfl ?_
          obtain ⟨v1, k3, h⟩ := bindE h
          refine dl (t := 20) 3 [.c (.box 0 (2 + v1 * 7))] rfl ?_
          obtain ⟨v2, k4, h⟩ := bindE h
          refine dl (t := 21) 4 [.c (.box 0 (2 + v1 * 7 + v2 * 1))] rfl ?_
          refine dl (t := 22) 5 [.c (.pv (.int .i64 ((x1.2.D v1) v2)))] rfl ?_
          refine dl (t := 23) 6 [.c (.pv (.int .i64 a2))] rfl ?_
          refine dl (t := 24) 7 [.c (.pv (.int .i64 (IntKind.i64.wrap (((x1.2.D v1) v2) + a2))))] rfl ?_
          refine dl (t := 25) 8 [.c (.box 0 2)] rfl ?_
          obtain ⟨v3, k5, h⟩ := bindE h
          refine dl (t := 26) 9 [.c (.box 0 (2 + v3 * 7))] rfl ?_
          obtain ⟨v4, k6, h⟩ := bindE h
          refine dl (t := 27) 10 [.c (.box 0 (2 + v3 * 7 + v4 * 1))] rfl ?_
          obtain ⟨v5, k7, h⟩ := bindE h
          refine d_storeG (cs' := [.pv (.int .i64 x1.2.N), .pv (.bool x1.2.None), .pv (.int .i64 ((v5 0) 0)), .pv (.int .i64 ((v5 0) 1)), .pv (.int .i64 ((v5 0) 2)), .pv (.int .i64 ((v5 0) 3)), .pv (.int .i64 ((v5 0) 4)), .pv (.int .i64 ((v5 0) 5)), .pv (.int .i64 ((v5 0) 6)), .pv (.int .i64 ((v5 1) 0)), .pv (.int .i64 ((v5 1) 1)), .pv (.int .i64 ((v5 1) 2)), .pv (.int .i64 ((v5 1) 3)), .pv (.int .i64 ((v5 1) 4)), .pv (.int .i64 ((v5 1) 5)), .pv (.int .i64 ((v5 1) 6)), .pv (.int .i64 ((v5 2) 0)), .pv (.int .i64 ((v5 2) 1)), .pv (.int .i64 ((v5 2) 2)), .pv (.int .i64 ((v5 2) 3)), .pv (.int .i64 ((v5 2) 4)), .pv (.int .i64 ((v5 2) 5)), .pv (.int .i64 ((v5 2) 6)), .pv (.int .i64 ((v5 3) 0)), .pv (.int .i64 ((v5 3) 1)), .pv (.int .i64 ((v5 3) 2)), .pv (.int .i64 ((v5 3) 3)), .pv (.int .i64 ((v5 3) 4)), .pv (.int .i64 ((v5 3) 5)), .pv (.int .i64 ((v5 3) 6)), .pv (.int .i64 ((v5 4) 0)), .pv (.int .i64 ((v5 4) 1)), .pv (.int .i64 ((v5 4) 2)), .pv (.int .i64 ((v5 4) 3)), .pv (.int .i64 ((v5 4) 4)), .pv (.int .i64 ((v5 4) 5)), .pv (.int .i64 ((v5 4) 6)), .pv (.int .i64 ((v5 5) 0)), .pv (.int .i64 ((v5 5) 1)), .pv (.int .i64 ((v5 5) 2)), .pv (.int .i64 ((v5 5) 3)), .pv (.int .i64 ((v5 5) 4)), .pv (.int .i64 ((v5 5) 5)), .pv (.int .i64 ((v5 5) 6)), .pv (.int .i64 ((v5 6) 0)), .pv (.int .i64 ((v5 6) 1)), .pv (.int .i64 ((v5 6) 2)), .pv (.int .i64 ((v5 6) 3)), .pv (.int .i64 ((v5 6) 4)), .pv (.int .i64 ((v5 6) 5)), .pv (.int .i64 ((v5 6) 6))]) (wm [0, 0, 0, 5, 15, 31, 0, 127, 0, 257, 1023, 2047]) 11 rfl (by kernel_rfl) (by kernel_rfl) (by kernel_rfl) (by kernel_rfl) (by kernel_rfl) (gi0 rfl) (oL [] rfl (by kernel_rfl) (fl_lt (ia_boxD rfl u59 ty3 rfl rfl k6)) (oL [] rfl (by kernel_rfl) (fl_lt (ia_boxD rfl u60 ty59 rfl rfl k5)) (oE tbok [] 3 (by kernel_rfl) (oL [] rfl (by kernel_rfl) (fl_lt (lt_load_box rfl ty3 rfl rfl (at2 (e := (PV.int .i64)) (D2 := x1.2.D) (pre := [.int .i64 x1.2.N, .bool x1.2.None]) (post := []) (n1 := 7) (n2 := 7) (by kernel_rfl) (inA_lt k3) (inA_lt k4)))) (oL [] rfl (by kernel_rfl) (fl_lt (ia_boxD rfl u59 ty3 rfl rfl k4)) (oL [] rfl (by kernel_rfl) (fl_lt (ia_boxD rfl u60 ty59 rfl rfl k3)) (oE tbok [] 3 (by kernel_rfl) trivial))))))) rfl rfl ty3 rfl rfl rfl rfl rfl (fit2 (e := (PV.int .i64)) (D2 := x1.2.D) (pre := [.int .i64 x1.2.N, .bool x1.2.None]) (post := []) (n1 := 7) (n2 := 7) (by kernel_rfl) (inA_lt k5) (inA_lt k6)) (put2 (e := (PV.int .i64)) (D2 := x1.2.D) (pre := [.int .i64 x1.2.N, .bool x1.2.None]) (post := []) (n1 := 7) (n2 := 7) (by kernel_rfl) (inA_lt k5) (inA_lt k6) (retE k7) (by kernel_rfl)) (SetAt.eq .z) ?_
          refine d_endS (env2 := [(1, [.c (.pv (.int .i64 a1))]), (2, [.c (.pv (.int .i64 a2))]), (3, [.c (.box 0 0)]), (6, [.c (.box 1 0)]), (7, [.c (.pv (.int .i64 x1.1))])]) (wm [0, 0, 0, 5, 15, 31, 0, 127, 0, 257, 1023, 2047]) (by kernel_rfl) (by kernel_rfl) (by kernel_rfl) (oN 12 (by kernel_rfl) trivial) (sub_cons rfl (sub_cons rfl (sub_cons rfl (sub_cons rfl (sub_cons rfl sub_nil))))) wT ?_
          refine then_ ?_
          refine drawn_ mixed ?_
          refine dl (t := 28) 0 [.c (.pv (.int .i64 x1.1))] rfl ?_
          refine dl (t := 29) 1 [.c (.pv (.int .i64 a1))] rfl ?_
          refine dl (t := 30) 2 [.c (.box 0 2)] rfl ?_
          obtain ⟨v6, k8, h⟩ := bindE h
          refine dl (t := 31) 3 [.c (.box 0 (2 + v6 * 7))] rfl ?_
          obtain ⟨v7, k9, h⟩ := bindE h
          refine dl (t := 32) 4 [.c (.box 0 (2 + v6 * 7 + v7 * 1))] rfl ?_
          refine dl (t := 33) 5 [.c (.pv (.int .i64 ((v5 v6) v7)))] rfl ?_
          refine dl (t := 34) 6 [.c (.pv (.int .i64 a2))] rfl ?_
          refine dl (t := 35) 7 [.c (.pv (.int .i64 (IntKind.i64.wrap (((v5 v6) v7) - a2))))] rfl ?_
          refine dl (t := 36) 8 [.c (.box 0 2)] rfl ?_
          obtain ⟨v8, k10, h⟩ := bindE h
          refine dl (t := 37) 9 [.c (.box 0 (2 + v8 * 7))] rfl ?_
          obtain ⟨v9, k11, h⟩ := bindE h
          refine dl (t := 38) 10 [.c (.box 0 (2 + v8 * 7 + v9 * 1))] rfl ?_
          obtain ⟨v10, k12, h⟩ := bindE h
          refine d_storeG (cs' := [.pv (.int .i64 x1.2.N), .pv (.bool x1.2.None), .pv (.int .i64 ((v10 0) 0)), .pv (.int .i64 ((v10 0) 1)), .pv (.int .i64 ((v10 0) 2)), .pv (.int .i64 ((v10 0) 3)), .pv (.int .i64 ((v10 0) 4)), .pv (.int .i64 ((v10 0) 5)), .pv (.int .i64 ((v10 0) 6)), .pv (.int .i64 ((v10 1) 0)), .pv (.int .i64 ((v10 1) 1)), .pv (.int .i64 ((v10 1) 2)), .pv (.int .i64 ((v10 1) 3)), .pv (.int .i64 ((v10 1) 4)), .pv (.int .i64 ((v10 1) 5)), .pv (.int .i64 ((v10 1) 6)), .pv (.int .i64 ((v10 2) 0)), .pv (.int .i64 ((v10 2) 1)), .pv (.int .i64 ((v10 2) 2)), .pv (.int .i64 ((v10 2) 3)), .pv (.int .i64 ((v10 2) 4)), .pv (.int .i64 ((v10 2) 5)), .pv (.int .i64 ((v10 2) 6)), .pv (.int .i64 ((v10 3) 0)), .pv (.int .i64 ((v10 3) 1)), .pv (.int .i64 ((v10 3) 2)), .pv (.int .i64 ((v10 3) 3)), .pv (.int .i64 ((v10 3) 4)), .pv (.int .i64 ((v10 3) 5)), .pv (.int .i64 ((v10 3) 6)), .pv (.int .i64 ((v10 4) 0)), .pv (.int .i64 ((v10 4) 1)), .pv (.int .i64 ((v10 4) 2)), .pv (.int .i64 ((v10 4) 3)), .pv (.int .i64 ((v10 4) 4)), .pv (.int .i64 ((v10 4) 5)), .pv (.int .i64 ((v10 4) 6)), .pv (.int .i64 ((v10 5) 0)), .pv (.int .i64 ((v10 5) 1)), .pv (.int .i64 ((v10 5) 2)), .pv (.int .i64 ((v10 5) 3)), .pv (.int .i64 ((v10 5) 4)), .pv (.int .i64 ((v10 5) 5)), .pv (.int .i64 ((v10 5) 6)), .pv (.int .i64 ((v10 6) 0)), .pv (.int .i64 ((v10 6) 1)), .pv (.int .i64 ((v10 6) 2)), .pv (.int .i64 ((v10 6) 3)), .pv (.int .i64 ((v10 6) 4)), .pv (.int .i64 ((v10 6) 5)), .pv (.int .i64 ((v10 6) 6))]) (wm [0, 0, 0, 5, 15, 31, 0, 127, 0, 257, 1023, 2047]) 11 rfl (by kernel_rfl) (by kernel_rfl) (by kernel_rfl) (by kernel_rfl) (by kernel_rfl) (gi0 rfl) (oL [] rfl (by kernel_rfl) (fl_lt (ia_boxD rfl u59 ty3 rfl rfl k11)) (oL [] rfl (by kernel_rfl) (fl_lt (ia_boxD rfl u60 ty59 rfl rfl k10)) (oE tbok [] 3 (by kernel_rfl) (oL [] rfl (by kernel_rfl) (fl_lt (lt_load_box rfl ty3 rfl rfl (at2 (e := (PV.int .i64)) (D2 := v5) (pre := [.int .i64 x1.2.N, .bool x1.2.None]) (post := []) (n1 := 7) (n2 := 7) (by kernel_rfl) (inA_lt k8) (inA_lt k9)))) (oL [] rfl (by kernel_rfl) (fl_lt (ia_boxD rfl u59 ty3 rfl rfl k9)) (oL [] rfl (by kernel_rfl) (fl_lt (ia_boxD rfl u60 ty59 rfl rfl k8)) (oE tbok [] 3 (by kernel_rfl) trivial))))))) rfl rfl ty3 rfl rfl rfl rfl rfl (fit2 (e := (PV.int .i64)) (D2 := v5) (pre := [.int .i64 x1.2.N, .bool x1.2.None]) (post := []) (n1 := 7) (n2 := 7) (by kernel_rfl) (inA_lt k10) (inA_lt k11)) (put2 (e := (PV.int .i64)) (D2 := v5) (pre := [.int .i64 x1.2.N, .bool x1.2.None]) (post := []) (n1 := 7) (n2 := 7) (by kernel_rfl) (inA_lt k10) (inA_lt k11) (retE k12) (by kernel_rfl)) (SetAt.eq .z) ?_
          refine d_endS (env2 := [(1, [.c (.pv (.int .i64 a1))]), (2, [.c (.pv (.int .i64 a2))]), (3, [.c (.box 0 0)]), (6, [.c (.box 1 0)]), (7, [.c (.pv (.int .i64 x1.1))])]) (wm [0, 0, 0, 5, 15, 31, 0, 127, 0, 257, 1023, 2047]) (by kernel_rfl) (by kernel_rfl) (by kernel_rfl) (oN 12 (by kernel_rfl) trivial) (sub_cons rfl (sub_cons rfl (sub_cons rfl (sub_cons rfl (sub_cons rfl sub_nil))))) (wB wM) ?_
          refine bN ?_
          obtain rfl := retE h
          refine mN ?_
          exact wkE (by kernel_rfl) (by kernel_rfl)
        · have h := iteF h k2
          refine skip_ ?_
          refine bN ?_
          obtain rfl := retE h
          refine mN ?_
          refine w_sub (env' := [(1, [.c (.pv (.int .i64 a1))]), (2, [.c (.pv (.int .i64 a2))]), (3, [.c (.box 0 0)]), (6, [.c (.box 1 0)]), (7, [.c (.pv (.int .i64 x1.1))])]) (sub_cons rfl (sub_cons rfl (sub_cons rfl (sub_cons rfl (sub_cons rfl sub_nil))))) ?_
          exact wkE (by kernel_rfl) (by kernel_rfl)
      · refine then_ ?_
        refine region_ ?_
        refine R tbok 3 [7, 1, 2, 3, 6] [(7, [.c (.pv (.int .i64 (IntKind.i64.wrap (x1.1 + 1))))]), (1, [.c (.pv (.int .i64 a1))]), (2, [.c (.pv (.int .i64 a2))]), (3, [.c (.box 0 0)]), (6, [.c (.box 1 0)])] (by kernel_rfl) ?_
        refine ops_nil ?_
        obtain rfl := retE h
        refine lN ?_
        refine w_sub (env' := [(1, [.c (.pv (.int .i64 a1))]), (2, [.c (.pv (.int .i64 a2))]), (3, [.c (.box 0 0)]), (6, [.c (.box 1 0)]), (7, [.c (.pv (.int .i64 (IntKind.i64.wrap (x1.1 + 1))))])]) (sub_cons rfl (sub_cons rfl (sub_cons rfl (sub_cons rfl (sub_cons rfl sub_nil))))) ?_
        exact wkE (by kernel_rfl) (by kernel_rfl)
    · have h := iteF h k1
      refine exit_ ?_
      refine tX ?_
      obtain rfl := retE h
      refine lX ?_
      refine w_sub (env' := [(3, [.c (.box 0 0)]), (6, [.c (.box 1 0)])]) (sub_cons rfl (sub_cons rfl sub_nil)) ?_
      exact wkE (by kernel_rfl) (by kernel_rfl)
  · cases h
  · have h := elimR h
    refine then_ ?_
    refine seq_ ?_
    refine region_ ?_
    refine R tbok 1 [39, 6] [(39, [.agg (bs (e_zone_Zone j1))]), (6, [.c (.box 1 0)])] (by kernel_rfl) ?_
    obtain ⟨v11, k13, h⟩ := bindE h
    refine C rfl rfl (fl_call rfl Tryz.call142 rfl (by kernel_rfl) (by kernel_rfl) (zone_Zone_close_meets k13)) rfl ?_
    refine S rfl rfl rfl ty62 (by decide) rfl rfl rfl rfl rfl (.all rfl) (.s .z) ?_
    refine ops_nil ?_
    refine then_ ?_
    refine ret_ ?_
    obtain rfl := retE h
    refine rwr (rw_ (.cellA (ys := (bs (e_zone_Zone v11))) ty62 rfl rfl (by kernel_rfl) (by kernel_rfl) .nil) ?_)
    refine w_none 0 .z ?_
    refine w_none 1 (.s .z) ?_
    refine w_cut 0 rfl rfl rfl rfl ?_
    exact wkE (by kernel_rfl) (by kernel_rfl)

theorem zone_Copy_meets {a0 : zone_Zone} {a1 : Int} {a2 : Int} {a3 : Int} {r : zone_Zone} (h : zone_Copy a0 a1 a2 a3 = some r) : MeetsV Tryz.prog GG 224 [.agg (bs (e_zone_Zone a0)), .c (.pv (.int .i64 a1)), .c (.pv (.int .i64 a2)), .c (.pv (.int .i64 a3))] [.agg (bs (e_zone_Zone r))] := by
  refine MeetsS.toV (meetsW_of (st0 := []) (N := 55) r_zone_Copy o_zone_Copy r Tryz.func224 rfl rfl rfl (by dsimp only [argEnv]) rfl ?_) rfl
  unfold zone_Copy at h
  refine seq_ ?_
  refine region_ ?_
  refine B rfl rfl (bir_box rfl rfl rfl) rfl rfl .z ?_
  refine B rfl rfl (bir_alloc rfl z62 rfl rfl) rfl rfl (.s .z) ?_
  refine ops_nil ?_
  refine then_ ?_
  refine seq_ ?_
  refine seq_ ?_
  refine jn_ (fun (j1 : Bool) => (⟨55, 0, [(1, [.c (.pv (.int .i64 a1))]), (2, [.c (.pv (.int .i64 a2))]), (3, [.c (.pv (.int .i64 a3))]), (4, [.c (.box 0 0)]), (8, [.c (.box 1 0)]), (18, [.c (.pv (.bool j1))])], [some (.box true 62 (bs (e_zone_Zone a0))), some (.box true 62 (bs (e_zone_Zone (zone_Zone.mk 0 false (arr (arr 0 []) [(arr 0 [0, 0, 0, 0, 0, 0, 0]), (arr 0 [0, 0, 0, 0, 0, 0, 0]), (arr 0 [0, 0, 0, 0, 0, 0, 0]), (arr 0 [0, 0, 0, 0, 0, 0, 0]), (arr 0 [0, 0, 0, 0, 0, 0, 0]), (arr 0 [0, 0, 0, 0, 0, 0, 0]), (arr 0 [0, 0, 0, 0, 0, 0, 0])])))))]⟩ : Sx)) h wT (fun o h => ?_) (fun j1 h => ?_)
  · refine region_ ?_
    refine R tbok 2 [10, 9, 8, 4, 1, 2, 3] [(10, [.c (.pv (.int .i64 a1))]), (9, [.agg (bs (e_zone_Zone a0))]), (8, [.c (.box 1 0)]), (4, [.c (.box 0 0)]), (1, [.c (.pv (.int .i64 a1))]), (2, [.c (.pv (.int .i64 a2))]), (3, [.c (.pv (.int .i64 a3))])] (by kernel_rfl) ?_
    obtain ⟨v1, k1, h⟩ := bindE h
    refine C rfl rfl (fl_call rfl Tryz.call138 rfl (by kernel_rfl) (by kernel_rfl) (zone_variable_meets k1)) rfl ?_
    refine R tbok 2 [13, 8, 4, 1, 2, 3] [(13, [.c (.pv (.bool (!v1)))]), (8, [.c (.box 1 0)]), (4, [.c (.box 0 0)]), (1, [.c (.pv (.int .i64 a1))]), (2, [.c (.pv (.int .i64 a2))]), (3, [.c (.pv (.int .i64 a3))])] (by kernel_rfl) ?_
    refine (tf (!v1)).elim (fun k2 => ?_) (fun k2 => ?_)
    · have h := iteT h k2
      refine Ls0 rfl rfl rfl k2 rfl rfl ?_
      refine Ls0 rfl rfl rfl k2 rfl rfl ?_
      refine Ls0 rfl rfl rfl k2 rfl rfl ?_
      refine Ls0 rfl rfl rfl k2 rfl rfl ?_
      refine L rfl rfl (lt_pickT rfl rfl k2 rfl) rfl ?_
      refine ops_nil ?_
      obtain rfl := retE h
      refine mN ?_
      refine w_sub (env' := [(1, [.c (.pv (.int .i64 a1))]), (2, [.c (.pv (.int .i64 a2))]), (3, [.c (.pv (.int .i64 a3))]), (4, [.c (.box 0 0)]), (8, [.c (.box 1 0)]), (18, [.c (.pv (.bool true))])]) (sub_cons rfl (sub_cons rfl (sub_cons rfl (sub_cons rfl (sub_cons rfl (sub_cons rfl sub_nil)))))) ?_
      exact wkE (by kernel_rfl) (by kernel_rfl)
    · have h := iteF h k2
      refine Lg rfl rfl rfl k2 rfl (lt_load_boxA (ys := (bs (e_zone_Zone a0))) rfl ty62 rfl rfl (by kernel_rfl) (by kernel_rfl)) rfl ?_
      refine Lg rfl rfl rfl k2 rfl (lt_move rfl rfl) rfl ?_
      obtain ⟨v2, k3, h⟩ := bindE h
      refine Hg rfl rfl rfl k2 rfl rfl (op_fl rfl rfl (fl_call rfl Tryz.call181 rfl (by kernel_rfl) (by kernel_rfl) (zone_orNought_meets k3)) ?_)
      refine Lg rfl rfl rfl k2 rfl (lt_not rfl rfl) rfl ?_
      refine L rfl rfl (lt_pickF rfl rfl k2 rfl) rfl ?_
      refine ops_nil ?_
      obtain rfl := retE h
      refine mN ?_
      refine w_sub (env' := [(1, [.c (.pv (.int .i64 a1))]), (2, [.c (.pv (.int .i64 a2))]), (3, [.c (.pv (.int .i64 a3))]), (4, [.c (.box 0 0)]), (8, [.c (.box 1 0)]), (18, [.c (.pv (.bool (!v2)))])]) (sub_cons rfl (sub_cons rfl (sub_cons rfl (sub_cons rfl (sub_cons rfl (sub_cons rfl sub_nil)))))) ?_
      exact wkE (by kernel_rfl) (by kernel_rfl)
  · refine then_ ?_
    refine cond_ (b := j1) rfl (fun k4 => ?_) (fun k4 => ?_)
    · have h := iteT h k4
      refine seq_ ?_
      refine region_ ?_
      refine R tbok 1 [19, 1, 2, 3, 4, 8] [(19, [.agg (bs (e_zone_Zone a0))]), (1, [.c (.pv (.int .i64 a1))]), (2, [.c (.pv (.int .i64 a2))]), (3, [.c (.pv (.int .i64 a3))]), (4, [.c (.box 0 0)]), (8, [.c (.box 1 0)])] (by kernel_rfl) ?_
      refine S rfl rfl rfl ty62 (by decide) rfl rfl rfl rfl rfl (.all rfl) (.s .z) ?_
      refine ops_nil ?_
      refine then_ ?_
      refine ret_ ?_
      obtain rfl := retE h
      refine tR (rwr (rw_ (.cellA (ys := (bs (e_zone_Zone a0))) ty62 rfl rfl (by kernel_rfl) (by kernel_rfl) .nil) ?_))
      refine w_none 0 .z ?_
      refine w_none 1 (.s .z) ?_
      refine w_cut 0 rfl rfl rfl rfl ?_
      exact wkE (by kernel_rfl) (by kernel_rfl)
    · have h := iteF h k4
      refine skip_ ?_
      refine then_ ?_
      refine seq_ ?_
      refine region_ ?_
      refine R tbok 1 [20, 1, 2, 3, 4, 8] [(20, [.c (.pv (.int .i64 a3))]), (1, [.c (.pv (.int .i64 a1))]), (2, [.c (.pv (.int .i64 a2))]), (3, [.c (.pv (.int .i64 a3))]), (4, [.c (.box 0 0)]), (8, [.c (.box 1 0)])] (by kernel_rfl) ?_
      refine L rfl rfl (lt_max2 rfl rfl rfl) rfl ?_
      refine L rfl rfl (lt_min2 rfl rfl rfl) rfl ?_
      refine R tbok 1 [3, 1, 2, 4, 8] [(3, [.c (.pv (.int .i64 (min (max a3 (-1099511627776)) 1099511627776)))]), (1, [.c (.pv (.int .i64 a1))]), (2, [.c (.pv (.int .i64 a2))]), (4, [.c (.box 0 0)]), (8, [.c (.box 1 0)])] (by kernel_rfl) ?_
      refine ops_nil ?_
      refine then_ ?_
      refine seq_ ?_
      refine seq_ ?_
      refine region_ ?_
      refine R tbok 3 [25, 3, 1, 2, 4, 8] [(25, [.c (.pv (.bool (a1 == a2)))]), (3, [.c (.pv (.int .i64 (min (max a3 (-1099511627776)) 1099511627776)))]), (1, [.c (.pv (.int .i64 a1))]), (2, [.c (.pv (.int .i64 a2))]), (4, [.c (.box 0 0)]), (8, [.c (.box 1 0)])] (by kernel_rfl) ?_
      refine ops_nil ?_
      refine then_ ?_
      refine cond_ (b := (a1 == a2)) rfl (fun k5 => ?_) (fun k5 => ?_)
      · have h := iteT h k5
        refine seq_ ?_
        refine region_ ?_
        refine R tbok 4 [29, 28, 26, 3, 1, 2, 4, 8] [(29, [.c (.pv (.int .i64 (min (max a3 (-1099511627776)) 1099511627776)))]), (28, [.c (.pv (.int .i64 (IntKind.i64.wrap (a1 + 1))))]), (26, [.agg (bs (e_zone_Zone a0))]), (3, [.c (.pv (.int .i64 (min (max a3 (-1099511627776)) 1099511627776)))]), (1, [.c (.pv (.int .i64 a1))]), (2, [.c (.pv (.int .i64 a2))]), (4, [.c (.box 0 0)]), (8, [.c (.box 1 0)])] (by kernel_rfl) ?_
        obtain ⟨v3, k6, h⟩ := bindE h
        refine C rfl rfl (fl_call rfl Tryz.call239 rfl (by kernel_rfl) (by kernel_rfl) (zone_moved_meets k6)) rfl ?_
        refine S rfl rfl rfl ty62 (by decide) rfl rfl rfl rfl rfl (.all rfl) (.s .z) ?_
        refine ops_nil ?_
        refine then_ ?_
        refine ret_ ?_
        obtain rfl := retE h
        refine tR (rwr (rw_ (.cellA (ys := (bs (e_zone_Zone v3))) ty62 rfl rfl (by kernel_rfl) (by kernel_rfl) .nil) ?_))
        refine w_none 0 .z ?_
        refine w_none 1 (.s .z) ?_
        refine w_cut 0 rfl rfl rfl rfl ?_
        exact wkE (by kernel_rfl) (by kernel_rfl)
      · have h := iteF h k5
        refine skip_ ?_
        refine then_ ?_
        refine seq_ ?_
        refine region_ ?_
        refine R tbok 2 [32, 3, 1, 2, 4, 8] [(32, [.c (.pv (.int .i64 (IntKind.i64.wrap (a1 + 1))))]), (3, [.c (.pv (.int .i64 (min (max a3 (-1099511627776)) 1099511627776)))]), (1, [.c (.pv (.int .i64 a1))]), (2, [.c (.pv (.int .i64 a2))]), (4, [.c (.box 0 0)]), (8, [.c (.box 1 0)])] (by kernel_rfl) ?_
        obtain ⟨v4, k7, h⟩ := bindE h
        refine callS (env' := [(32, [.c (.pv (.int .i64 (IntKind.i64.wrap (a1 + 1))))]), (3, [.c (.pv (.int .i64 (min (max a3 (-1099511627776)) 1099511627776)))]), (1, [.c (.pv (.int .i64 a1))]), (2, [.c (.pv (.int .i64 a2))]), (4, [.c (.box 0 0)]), (8, [.c (.box 1 0)])]) (argsX' := []) (st' := [some (.box true 62 (bs (e_zone_Zone v4))), some (.box true 62 (bs (e_zone_Zone (zone_Zone.mk 0 false (arr (arr 0 []) [(arr 0 [0, 0, 0, 0, 0, 0, 0]), (arr 0 [0, 0, 0, 0, 0, 0, 0]), (arr 0 [0, 0, 0, 0, 0, 0, 0]), (arr 0 [0, 0, 0, 0, 0, 0, 0]), (arr 0 [0, 0, 0, 0, 0, 0, 0]), (arr 0 [0, 0, 0, 0, 0, 0, 0]), (arr 0 [0, 0, 0, 0, 0, 0, 0])])))))]) [0] [] rfl rfl rfl rfl Tryz.call141 rfl rfl (by kernel_rfl) (by kernel_rfl) (zone_Zone_forget_meets k7) (by kernel_rfl) (by kernel_rfl) (by kernel_rfl) ?_
        refine ops_nil ?_
        refine then_ ?_
        refine seq_ ?_
        refine region_ ?_
        refine R tbok 1 [34, 3, 1, 2, 4, 8] [(34, [.agg (bs (e_zone_Zone v4))]), (3, [.c (.pv (.int .i64 (min (max a3 (-1099511627776)) 1099511627776)))]), (1, [.c (.pv (.int .i64 a1))]), (2, [.c (.pv (.int .i64 a2))]), (4, [.c (.box 0 0)]), (8, [.c (.box 1 0)])] (by kernel_rfl) ?_
        obtain ⟨v5, k8, h⟩ := bindE h
        refine C rfl rfl (fl_call rfl Tryz.call142 rfl (by kernel_rfl) (by kernel_rfl) (zone_Zone_close_meets k8)) rfl ?_
        refine S rfl rfl rfl ty62 (by decide) rfl rfl rfl rfl rfl (.all rfl) .z ?_
        refine ops_nil ?_
        refine then_ ?_
        refine seq_ ?_
        refine drawn_ mixed ?_
        refine dl (t := 36) 0 [.c (.pv (.int .i64 a1))] rfl ?_
        refine dl (t := 37) 1 [.c (.pv (.int .i64 (IntKind.i64.wrap (a1 + 1))))] rfl ?_
        refine dl (t := 38) 2 [.c (.pv (.int .i64 a2))] rfl ?_
        refine dl (t := 39) 3 [.c (.pv (.int .i64 (IntKind.i64.wrap (a2 + 1))))] rfl ?_
        refine dl (t := 40) 4 [.c (.pv (.int .i64 a2))] rfl ?_
        refine dl (t := 41) 5 [.c (.pv (.int .i64 (IntKind.i64.wrap (a2 + 1))))] rfl ?_
        refine dl (t := 42) 6 [.c (.pv (.int .i64 a1))] rfl ?_
        refine dl (t := 43) 7 [.c (.pv (.int .i64 (IntKind.i64.wrap (a1 + 1))))] rfl ?_
        refine dl (t := 44) 8 [.c (.pv (.int .i64 (min (max a3 (-1099511627776)) 1099511627776)))] rfl ?_
        refine dl (t := 45) 9 [.c (.pv (.int .i64 (min (max a3 (-1099511627776)) 1099511627776)))] rfl ?_
        refine dl (t := 46) 10 [.c (.pv (.int .i64 (IntKind.i64.wrap (0 - (min (max a3 (-1099511627776)) 1099511627776)))))] rfl ?_
        refine dl (t := 47) 11 [.c (.box 0 2)] rfl ?_
        obtain ⟨v6, k9, h⟩ := bindE h
        refine dl (t := 48) 12 [.c (.box 0 (2 + v6 * 7))] rfl ?_
        obtain ⟨v7, k10, h⟩ := bindE h
        refine dl (t := 49) 13 [.c (.box 0 (2 + v6 * 7 + v7 * 1))] rfl ?_
        refine dl (t := 50) 15 [.c (.box 0 2)] rfl ?_
        obtain ⟨v8, k11, h⟩ := bindE h
        refine dl (t := 51) 16 [.c (.box 0 (2 + v8 * 7))] rfl ?_
        obtain ⟨v9, k12, h⟩ := bindE h
        refine d_storeG (cs' := [.pv (.int .i64 v5.N), .pv (.bool v5.None), .pv (.int .i64 ((v9 0) 0)), .pv (.int .i64 ((v9 0) 1)), .pv (.int .i64 ((v9 0) 2)), .pv (.int .i64 ((v9 0) 3)), .pv (.int .i64 ((v9 0) 4)), .pv (.int .i64 ((v9 0) 5)), .pv (.int .i64 ((v9 0) 6)), .pv (.int .i64 ((v9 1) 0)), .pv (.int .i64 ((v9 1) 1)), .pv (.int .i64 ((v9 1) 2)), .pv (.int .i64 ((v9 1) 3)), .pv (.int .i64 ((v9 1) 4)), .pv (.int .i64 ((v9 1) 5)), .pv (.int .i64 ((v9 1) 6)), .pv (.int .i64 ((v9 2) 0)), .pv (.int .i64 ((v9 2) 1)), .pv (.int .i64 ((v9 2) 2)), .pv (.int .i64 ((v9 2) 3)), .pv (.int .i64 ((v9 2) 4)), .pv (.int .i64 ((v9 2) 5)), .pv (.int .i64 ((v9 2) 6)), .pv (.int .i64 ((v9 3) 0)), .pv (.int .i64 ((v9 3) 1)), .pv (.int .i64 ((v9 3) 2)), .pv (.int .i64 ((v9 3) 3)), .pv (.int .i64 ((v9 3) 4)), .pv (.int .i64 ((v9 3) 5)), .pv (.int .i64 ((v9 3) 6)), .pv (.int .i64 ((v9 4) 0)), .pv (.int .i64 ((v9 4) 1)), .pv (.int .i64 ((v9 4) 2)), .pv (.int .i64 ((v9 4) 3)), .pv (.int .i64 ((v9 4) 4)), .pv (.int .i64 ((v9 4) 5)), .pv (.int .i64 ((v9 4) 6)), .pv (.int .i64 ((v9 5) 0)), .pv (.int .i64 ((v9 5) 1)), .pv (.int .i64 ((v9 5) 2)), .pv (.int .i64 ((v9 5) 3)), .pv (.int .i64 ((v9 5) 4)), .pv (.int .i64 ((v9 5) 5)), .pv (.int .i64 ((v9 5) 6)), .pv (.int .i64 ((v9 6) 0)), .pv (.int .i64 ((v9 6) 1)), .pv (.int .i64 ((v9 6) 2)), .pv (.int .i64 ((v9 6) 3)), .pv (.int .i64 ((v9 6) 4)), .pv (.int .i64 ((v9 6) 5)), .pv (.int .i64 ((v9 6) 6))]) (wm [0, 1, 0, 4, 0, 16, 0, 64, 0, 0, 512, 0, 2051, 6415, 14607, 0, 32816, 131071, 262143]) 14 rfl (by kernel_rfl) (by kernel_rfl) (by kernel_rfl) (by kernel_rfl) (by kernel_rfl) (gi0 rfl) (oL [] rfl (by kernel_rfl) (fl_lt (ia_boxD rfl u60 ty59 rfl rfl k11)) (oE tbok [] 1 (by kernel_rfl) (oL [] rfl (by kernel_rfl) (fl_lt (ia_boxD rfl u59 ty3 rfl rfl k10)) (oL [] rfl (by kernel_rfl) (fl_lt (ia_boxD rfl u60 ty59 rfl rfl k9)) (oE tbok [] 12 (by kernel_rfl) trivial))))) rfl rfl ty3 rfl rfl rfl rfl rfl (fit2 (e := (PV.int .i64)) (D2 := v5.D) (pre := [.int .i64 v5.N, .bool v5.None]) (post := []) (n1 := 7) (n2 := 7) (by kernel_rfl) (inA_lt k9) (inA_lt k10)) (put2 (e := (PV.int .i64)) (D2 := v5.D) (pre := [.int .i64 v5.N, .bool v5.None]) (post := []) (n1 := 7) (n2 := 7) (by kernel_rfl) (inA_lt k9) (inA_lt k10) (retE k12) (by kernel_rfl)) (SetAt.eq .z) ?_
        obtain ⟨v10, k13, h⟩ := bindE h
        refine dl (t := 52) 17 [.c (.box 0 (2 + v8 * 7 + v10 * 1))] rfl ?_
        obtain ⟨v11, k14, h⟩ := bindE h
        refine d_storeG (cs' := [.pv (.int .i64 v5.N), .pv (.bool v5.None), .pv (.int .i64 ((v11 0) 0)), .pv (.int .i64 ((v11 0) 1)), .pv (.int .i64 ((v11 0) 2)), .pv (.int .i64 ((v11 0) 3)), .pv (.int .i64 ((v11 0) 4)), .pv (.int .i64 ((v11 0) 5)), .pv (.int .i64 ((v11 0) 6)), .pv (.int .i64 ((v11 1) 0)), .pv (.int .i64 ((v11 1) 1)), .pv (.int .i64 ((v11 1) 2)), .pv (.int .i64 ((v11 1) 3)), .pv (.int .i64 ((v11 1) 4)), .pv (.int .i64 ((v11 1) 5)), .pv (.int .i64 ((v11 1) 6)), .pv (.int .i64 ((v11 2) 0)), .pv (.int .i64 ((v11 2) 1)), .pv (.int .i64 ((v11 2) 2)), .pv (.int .i64 ((v11 2) 3)), .pv (.int .i64 ((v11 2) 4)), .pv (.int .i64 ((v11 2) 5)), .pv (.int .i64 ((v11 2) 6)), .pv (.int .i64 ((v11 3) 0)), .pv (.int .i64 ((v11 3) 1)), .pv (.int .i64 ((v11 3) 2)), .pv (.int .i64 ((v11 3) 3)), .pv (.int .i64 ((v11 3) 4)), .pv (.int .i64 ((v11 3) 5)), .pv (.int .i64 ((v11 3) 6)), .pv (.int .i64 ((v11 4) 0)), .pv (.int .i64 ((v11 4) 1)), .pv (.int .i64 ((v11 4) 2)), .pv (.int .i64 ((v11 4) 3)), .pv (.int .i64 ((v11 4) 4)), .pv (.int .i64 ((v11 4) 5)), .pv (.int .i64 ((v11 4) 6)), .pv (.int .i64 ((v11 5) 0)), .pv (.int .i64 ((v11 5) 1)), .pv (.int .i64 ((v11 5) 2)), .pv (.int .i64 ((v11 5) 3)), .pv (.int .i64 ((v11 5) 4)), .pv (.int .i64 ((v11 5) 5)), .pv (.int .i64 ((v11 5) 6)), .pv (.int .i64 ((v11 6) 0)), .pv (.int .i64 ((v11 6) 1)), .pv (.int .i64 ((v11 6) 2)), .pv (.int .i64 ((v11 6) 3)), .pv (.int .i64 ((v11 6) 4)), .pv (.int .i64 ((v11 6) 5)), .pv (.int .i64 ((v11 6) 6))]) (wm [0, 1, 0, 4, 0, 16, 0, 64, 0, 0, 512, 0, 2051, 6415, 14607, 0, 32816, 131071, 262143]) 18 rfl (by kernel_rfl) (by kernel_rfl) (by kernel_rfl) (by kernel_rfl) (by kernel_rfl) (gi0 rfl) (oL [] rfl (by kernel_rfl) (fl_lt (ia_boxD rfl u59 ty3 rfl rfl k13)) (oN 1 (by kernel_rfl) (oL [] rfl (by kernel_rfl) (fl_lt (ia_boxD rfl u60 ty59 rfl rfl k11)) (oE tbok [] 1 (by kernel_rfl) (oN 3 (by kernel_rfl) (oE tbok [] 2 (by kernel_rfl) (oN 1 (by kernel_rfl) (oE tbok [] 4 (by kernel_rfl) (oN 4 (by kernel_rfl) trivial))))))))) rfl rfl ty3 rfl rfl rfl rfl rfl (fit2 (e := (PV.int .i64)) (D2 := v9) (pre := [.int .i64 v5.N, .bool v5.None]) (post := []) (n1 := 7) (n2 := 7) (by kernel_rfl) (inA_lt k11) (inA_lt k13)) (put2 (e := (PV.int .i64)) (D2 := v9) (pre := [.int .i64 v5.N, .bool v5.None]) (post := []) (n1 := 7) (n2 := 7) (by kernel_rfl) (inA_lt k11) (inA_lt k13) (retE k14) (by kernel_rfl)) (SetAt.eq .z) ?_
        refine d_endS (env2 := [(4, [.c (.box 0 0)]), (8, [.c (.box 1 0)])]) (wm [0, 1, 0, 4, 0, 16, 0, 64, 0, 0, 512, 0, 2051, 6415, 14607, 0, 32816, 131071, 262143]) (by kernel_rfl) (by kernel_rfl) (by kernel_rfl) (oN 19 (by kernel_rfl) trivial) (sub_cons rfl (sub_cons rfl sub_nil)) wT ?_
        refine then_ ?_
        refine seq_ ?_
        refine region_ ?_
        refine R tbok 1 [53, 8] [(53, [.agg (bs (e_zone_Zone (zone_Zone.mk v5.N v5.None v11)))]), (8, [.c (.box 1 0)])] (by kernel_rfl) ?_
        obtain ⟨v12, k15, h⟩ := bindE h
        refine C rfl rfl (fl_call rfl Tryz.call142 rfl (by kernel_rfl) (by kernel_rfl) (zone_Zone_close_meets k15)) rfl ?_
        refine S rfl rfl rfl ty62 (by decide) rfl rfl rfl rfl rfl (.all rfl) (.s .z) ?_
        refine ops_nil ?_
        refine then_ ?_
        refine ret_ ?_
        obtain rfl := retE h
        refine rwr (rw_ (.cellA (ys := (bs (e_zone_Zone v12))) ty62 rfl rfl (by kernel_rfl) (by kernel_rfl) .nil) ?_)
        refine w_none 0 .z ?_
        refine w_none 1 (.s .z) ?_
        refine w_cut 0 rfl rfl rfl rfl ?_
        exact wkE (by kernel_rfl) (by kernel_rfl)

theorem num_Copy_meets {a0 : num_Num} {a1 : Int} {a2 : Int} {a3 : Int} {r : num_Num} (h : num_Copy a0 a1 a2 a3 = some r) : MeetsV Tryz.prog GG 186 [.agg (bs (e_num_Num a0)), .c (.pv (.int .i64 a1)), .c (.pv (.int .i64 a2)), .c (.pv (.int .i64 a3))] [.agg (bs (e_num_Num r))] := by
  refine MeetsS.toV (meetsW_of (st0 := []) (N := 16) r_num_Copy o_num_Copy r Tryz.func186 rfl rfl rfl (by dsimp only [argEnv]) rfl ?_) rfl
  unfold num_Copy at h
  refine seq_ ?_
  refine region_ ?_
  refine B rfl rfl (bir_box rfl rfl rfl) rfl rfl .z ?_
  refine B rfl rfl (bir_alloc rfl z64 rfl rfl) rfl rfl (.s .z) ?_
  refine ops_nil ?_
  refine then_ ?_
  refine seq_ ?_
  refine region_ ?_
  refine R tbok 5 [13, 12, 11, 10, 8] [(13, [.c (.pv (.int .i64 a3))]), (12, [.c (.pv (.int .i64 a2))]), (11, [.c (.pv (.int .i64 a1))]), (10, [.agg (bs (e_zone_Zone a0.Z))]), (8, [.c (.box 1 0)])] (by kernel_rfl) ?_
  obtain ⟨v1, k1, h⟩ := bindE h
  refine C rfl rfl (fl_call rfl Tryz.call224 rfl (by kernel_rfl) (by kernel_rfl) (zone_Copy_meets k1)) rfl ?_
  obtain ⟨v2, k2, h⟩ := bindE h
  refine C rfl rfl (fl_call rfl Tryz.call49 rfl (by kernel_rfl) (by kernel_rfl) (num_of_meets k2)) rfl ?_
  refine S rfl rfl rfl ty64 (by decide) rfl rfl rfl rfl rfl (.all rfl) (.s .z) ?_
  refine ops_nil ?_
  refine then_ ?_
  refine ret_ ?_
  obtain rfl := retE h
  refine rwr (rw_ (.cellA (ys := (bs (e_num_Num v2))) ty64 rfl rfl (by kernel_rfl) (by kernel_rfl) .nil) ?_)
  refine w_none 0 .z ?_
  refine w_none 1 (.s .z) ?_
  refine w_cut 0 rfl rfl rfl rfl ?_
  exact wkE (by kernel_rfl) (by kernel_rfl)

theorem num_Meet_meets {a0 : num_Num} {a1 : Int} {a2 : itv_Itv} {r : num_Num} (h : num_Meet a0 a1 a2 = some r) : MeetsV Tryz.prog GG 185 [.agg (bs (e_num_Num a0)), .c (.pv (.int .i64 a1)), .agg [.pv (.int .i64 a2.Lo), .pv (.int .i64 a2.Hi)]] [.agg (bs (e_num_Num r))] := by
  refine MeetsS.toV (meetsW_of (st0 := []) (N := 13) r_num_Meet o_num_Meet r Tryz.func185 rfl rfl rfl (by dsimp only [argEnv]) rfl ?_) rfl
  unfold num_Meet at h
  refine seq_ ?_
  refine region_ ?_
  refine B rfl rfl (bir_box rfl rfl rfl) rfl rfl .z ?_
  refine B rfl rfl (bir_box rfl rfl rfl) rfl rfl (.s .z) ?_
  refine B rfl rfl (bir_alloc rfl z64 rfl rfl) rfl rfl (.s (.s .z)) ?_
  refine ops_nil ?_
  refine then_ ?_
  refine seq_ ?_
  refine region_ ?_
  refine R tbok 4 [10, 9, 8, 6] [(10, [.agg [.pv (.int .i64 a2.Lo), .pv (.int .i64 a2.Hi)]]), (9, [.c (.pv (.int .i64 a1))]), (8, [.agg (bs (e_zone_Zone a0.Z))]), (6, [.c (.box 2 0)])] (by kernel_rfl) ?_
  obtain ⟨v1, k1, h⟩ := bindE h
  refine C rfl rfl (fl_call rfl Tryz.call95 rfl (by kernel_rfl) (by kernel_rfl) (num_held_meets k1)) rfl ?_
  obtain ⟨v2, k2, h⟩ := bindE h
  refine C rfl rfl (fl_call rfl Tryz.call49 rfl (by kernel_rfl) (by kernel_rfl) (num_of_meets k2)) rfl ?_
  refine S rfl rfl rfl ty64 (by decide) rfl rfl rfl rfl rfl (.all rfl) (.s (.s .z)) ?_
  refine ops_nil ?_
  refine then_ ?_
  refine ret_ ?_
  obtain rfl := retE h
  refine rwr (rw_ (.cellA (ys := (bs (e_num_Num v2))) ty64 rfl rfl (by kernel_rfl) (by kernel_rfl) .nil) ?_)
  refine w_none 0 .z ?_
  refine w_none 1 (.s .z) ?_
  refine w_none 2 (.s (.s .z)) ?_
  refine w_cut 0 rfl rfl rfl rfl ?_
  exact wkE (by kernel_rfl) (by kernel_rfl)

theorem eval_Assign_meets {a0 : num_Num} {a1 : Int} {a2 : check_Expr} {r : (num_Num × itv_Errs)} (h : eval_Assign a0 a1 a2 = some r) : MeetsV Tryz.prog GG 143 [.agg (bs (e_num_Num a0)), .c (.pv (.int .i64 a1)), .agg [.pv (.int .i64 a2.Kind), .pv (.int .i64 a2.Num), .pv (.int .i64 a2.Var), .pv (.sl (List.map e_check_Expr a2.Kids))]] [.agg (bs (e_num_Num r.1)), .agg [.pv (.bool r.2.Overflow), .pv (.bool r.2.DivZero)]] := by
  refine MeetsS.toV (meetsW_of (st0 := []) (N := 47) r_eval_Assign o_eval_Assign r Tryz.func143 rfl rfl rfl (by dsimp only [argEnv]) rfl ?_) rfl
  unfold eval_Assign at h
  refine seq_ ?_
  refine region_ ?_
  refine B rfl rfl (bir_box rfl rfl rfl) rfl rfl .z ?_
  refine B rfl rfl (bir_box rfl rfl rfl) rfl rfl (.s .z) ?_
  refine B rfl rfl (bir_alloc rfl z64 rfl rfl) rfl rfl (.s (.s .z)) ?_
  refine B rfl rfl (bir_alloc rfl z305 rfl rfl) rfl rfl (.s (.s (.s .z))) ?_
  refine ops_nil ?_
  refine then_ ?_
  refine seq_ ?_
  refine region_ ?_
  refine R tbok 2 [15, 14, 7, 6, 5, 3, 1] [(15, [.agg (bs (e_num_Num a0))]), (14, [.agg [.pv (.int .i64 a2.Kind), .pv (.int .i64 a2.Num), .pv (.int .i64 a2.Var), .pv (.sl (List.map e_check_Expr a2.Kids))]]), (7, [.c (.box 3 0)]), (6, [.c (.box 2 0)]), (5, [.c (.box 1 0)]), (3, [.c (.box 0 0)]), (1, [.c (.pv (.int .i64 a1))])] (by kernel_rfl) ?_
  obtain ⟨v1, k1, h⟩ := bindE h
  refine C rfl rfl (fl_call rfl Tryz.call149 rfl (by kernel_rfl) (by kernel_rfl) (eval_Eval_meets k1)) rfl ?_
  refine R tbok 3 [18, 17, 7, 6, 5, 3, 1] [(18, [.agg [.pv (.bool v1.2.Overflow), .pv (.bool v1.2.DivZero)]]), (17, [.agg [.pv (.int .i64 v1.1.Lo), .pv (.int .i64 v1.1.Hi)]]), (7, [.c (.box 3 0)]), (6, [.c (.box 2 0)]), (5, [.c (.box 1 0)]), (3, [.c (.box 0 0)]), (1, [.c (.pv (.int .i64 a1))])] (by kernel_rfl) ?_
  refine B rfl rfl (bir_alloc rfl z72 rfl rfl) rfl rfl (.s (.s (.s (.s .z)))) ?_
  refine B rfl rfl (bir_alloc rfl z305 rfl rfl) rfl rfl (.s (.s (.s (.s (.s .z))))) ?_
  refine S rfl rfl rfl ty72 (by decide) rfl rfl rfl rfl rfl (.all rfl) (.s (.s (.s (.s .z)))) ?_
  refine S rfl rfl rfl ty305 (by decide) rfl rfl rfl rfl rfl (.all rfl) (.s (.s (.s (.s (.s .z))))) ?_
  refine ops_nil ?_
  refine then_ ?_
  refine seq_ ?_
  refine seq_ ?_
  refine region_ ?_
  refine R tbok 1 [19, 9, 8, 7, 6, 5, 3, 1] [(19, [.agg [.pv (.int .i64 v1.1.Lo), .pv (.int .i64 v1.1.Hi)]]), (9, [.c (.box 5 0)]), (8, [.c (.box 4 0)]), (7, [.c (.box 3 0)]), (6, [.c (.box 2 0)]), (5, [.c (.box 1 0)]), (3, [.c (.box 0 0)]), (1, [.c (.pv (.int .i64 a1))])] (by kernel_rfl) ?_
  obtain ⟨v2, k2, h⟩ := bindE h
  refine C rfl rfl (fl_call rfl Tryz.call106 rfl (by kernel_rfl) (by kernel_rfl) (itv_Empty_meets k2)) rfl ?_
  refine ops_nil ?_
  refine then_ ?_
  refine cond_ (b := v2) rfl (fun k3 => ?_) (fun k3 => ?_)
  · have h := iteT h k3
    refine seq_ ?_
    refine drawn_ mixed ?_
    refine dl (t := 21) 0 [.c (.box 0 1)] rfl ?_
    refine dl (t := 22) 1 [.c (.pv (.sl (List.map e_itv_Itv a0.I)))] rfl ?_
    refine dl (t := 23) 2 [.c (.pv (.int .i64 (a0.I.length : Int)))] rfl ?_
    obtain ⟨v4, k5, h⟩ := bindE h
    refine dl (t := 24) 3 [.agg (bs (e_num_Num v4))] rfl ?_
    refine dl (t := 25) 4 [.agg [.pv (.bool v1.2.Overflow), .pv (.bool v1.2.DivZero)]] rfl ?_
    refine d_store (wm [0, 1, 3, 7, 0, 15, 63]) 5 rfl (by kernel_rfl) (by kernel_rfl) (by kernel_rfl) (by kernel_rfl) (by kernel_rfl) (gi0 rfl) (oE tbok [] 1 (by kernel_rfl) (oL [] rfl (by kernel_rfl) (fl_call rfl Tryz.call88 rfl (by kernel_rfl) (by kernel_rfl) (num_None_meets k5)) (oL [] rfl (by kernel_rfl) (fl_lt (len_sl (e := e_itv_Itv) rfl u58 rfl)) (oE tbok [] 2 (by kernel_rfl) trivial)))) rfl rfl ty64 rfl rfl rfl rfl rfl rfl (putE 53 (.all rfl) rfl (by decide)) (SetAt.eq (.s (.s .z))) ?_
    refine d_store (wm [0, 1, 3, 7, 0, 15, 63]) 6 rfl (by kernel_rfl) (by kernel_rfl) (by kernel_rfl) (by kernel_rfl) (by kernel_rfl) (gi0 rfl) (oN 1 (by kernel_rfl) (oE tbok [] 1 (by kernel_rfl) (oN 4 (by kernel_rfl) trivial))) rfl rfl ty305 rfl rfl rfl rfl rfl rfl (putE 2 (.all rfl) rfl (by decide)) (SetAt.eq (.s (.s (.s .z)))) ?_
    refine d_endS (env2 := [(9, [.c (.box 5 0)]), (8, [.c (.box 4 0)]), (7, [.c (.box 3 0)]), (6, [.c (.box 2 0)]), (5, [.c (.box 1 0)]), (3, [.c (.box 0 0)]), (1, [.c (.pv (.int .i64 a1))])]) (wm [0, 1, 3, 7, 0, 15, 63]) (by kernel_rfl) (by kernel_rfl) (by kernel_rfl) (oN 7 (by kernel_rfl) trivial) (sub_cons rfl (sub_cons rfl (sub_cons rfl (sub_cons rfl (sub_cons rfl (sub_cons rfl (sub_cons rfl sub_nil))))))) wT ?_
    refine then_ ?_
    refine ret_ ?_
    obtain rfl := retE h
    refine tR (rwr (rw_ (.cellA (ys := (bs (e_num_Num v4))) ty64 rfl rfl (by kernel_rfl) (by kernel_rfl) (.cellA (ys := [.pv (.bool v1.2.Overflow), .pv (.bool v1.2.DivZero)]) ty305 rfl rfl (by kernel_rfl) (by kernel_rfl) .nil)) ?_))
    refine w_none 0 .z ?_
    refine w_none 1 (.s .z) ?_
    refine w_none 2 (.s (.s .z)) ?_
    refine w_none 3 (.s (.s (.s .z))) ?_
    refine w_none 4 (.s (.s (.s (.s .z)))) ?_
    refine w_none 5 (.s (.s (.s (.s (.s .z))))) ?_
    refine w_cut 0 rfl rfl rfl rfl ?_
    exact wkE (by kernel_rfl) (by kernel_rfl)
  · have h := iteF h k3
    refine skip_ ?_
    refine then_ ?_
    refine seq_ ?_
    refine seq_ ?_
    refine region_ ?_
    refine R tbok 1 [27, 9, 8, 7, 6, 3, 1] [(27, [.agg [.pv (.int .i64 a2.Kind), .pv (.int .i64 a2.Num), .pv (.int .i64 a2.Var), .pv (.sl (List.map e_check_Expr a2.Kids))]]), (9, [.c (.box 5 0)]), (8, [.c (.box 4 0)]), (7, [.c (.box 3 0)]), (6, [.c (.box 2 0)]), (3, [.c (.box 0 0)]), (1, [.c (.pv (.int .i64 a1))])] (by kernel_rfl) ?_
    obtain ⟨v5, k6, h⟩ := bindE h
    refine C rfl rfl (fl_call rfl Tryz.call184 rfl (by kernel_rfl) (by kernel_rfl) (eval_Linear_meets k6)) rfl ?_
    refine R tbok 7 [12, 11, 10, 9, 8, 7, 6, 3, 1] [(12, [.c (.pv (.bool v5.2.2))]), (11, [.c (.pv (.int .i64 v5.2.1))]), (10, [.c (.pv (.int .i64 v5.1))]), (9, [.c (.box 5 0)]), (8, [.c (.box 4 0)]), (7, [.c (.box 3 0)]), (6, [.c (.box 2 0)]), (3, [.c (.box 0 0)]), (1, [.c (.pv (.int .i64 a1))])] (by kernel_rfl) ?_
    refine ops_nil ?_
    refine then_ ?_
    refine seq_ ?_
    refine region_ ?_
    refine R tbok 1 [32, 11, 10, 9, 8, 7, 6, 3, 1] [(32, [.c (.pv (.bool v5.2.2))]), (11, [.c (.pv (.int .i64 v5.2.1))]), (10, [.c (.pv (.int .i64 v5.1))]), (9, [.c (.box 5 0)]), (8, [.c (.box 4 0)]), (7, [.c (.box 3 0)]), (6, [.c (.box 2 0)]), (3, [.c (.box 0 0)]), (1, [.c (.pv (.int .i64 a1))])] (by kernel_rfl) ?_
    refine ops_nil ?_
    refine then_ ?_
    refine cond_ (b := v5.2.2) rfl (fun k7 => ?_) (fun k7 => ?_)
    · have h := iteT h k7
      refine seq_ ?_
      refine drawn_ mixed ?_
      refine dl (t := 33) 0 [.agg (bs (e_num_Num a0))] rfl ?_
      refine dl (t := 34) 1 [.c (.pv (.int .i64 a1))] rfl ?_
      refine dl (t := 35) 2 [.c (.pv (.int .i64 v5.1))] rfl ?_
      refine dl (t := 36) 3 [.c (.pv (.int .i64 v5.2.1))] rfl ?_
      obtain ⟨v7, k9, h⟩ := bindE h
      refine dl (t := 37) 4 [.agg (bs (e_num_Num v7))] rfl ?_
      refine dl (t := 38) 5 [.c (.pv (.int .i64 a1))] rfl ?_
      refine dl (t := 39) 6 [.agg [.pv (.int .i64 v1.1.Lo), .pv (.int .i64 v1.1.Hi)]] rfl ?_
      obtain ⟨v9, k11, h⟩ := bindE h
      refine dl (t := 40) 7 [.agg (bs (e_num_Num v9))] rfl ?_
      refine dl (t := 41) 8 [.agg [.pv (.bool v1.2.Overflow), .pv (.bool v1.2.DivZero)]] rfl ?_
      refine d_store (wm [0, 0, 0, 0, 15, 0, 0, 127, 0, 255, 1023]) 9 rfl (by kernel_rfl) (by kernel_rfl) (by kernel_rfl) (by kernel_rfl) (by kernel_rfl) (gi0 rfl) (oE tbok [] 1 (by kernel_rfl) (oL [] rfl (by kernel_rfl) (fl_call rfl Tryz.call185 rfl (by kernel_rfl) (by kernel_rfl) (num_Meet_meets k11)) (oE tbok [] 2 (by kernel_rfl) (oL [] rfl (by kernel_rfl) (fl_call rfl Tryz.call186 rfl (by kernel_rfl) (by kernel_rfl) (num_Copy_meets k9)) (oE tbok [] 4 (by kernel_rfl) trivial))))) rfl rfl ty64 rfl rfl rfl rfl rfl rfl (putE 53 (.all rfl) rfl (by decide)) (SetAt.eq (.s (.s .z))) ?_
      refine d_store (wm [0, 0, 0, 0, 15, 0, 0, 127, 0, 255, 1023]) 10 rfl (by kernel_rfl) (by kernel_rfl) (by kernel_rfl) (by kernel_rfl) (by kernel_rfl) (gi0 rfl) (oN 1 (by kernel_rfl) (oE tbok [] 1 (by kernel_rfl) (oN 8 (by kernel_rfl) trivial))) rfl rfl ty305 rfl rfl rfl rfl rfl rfl (putE 2 (.all rfl) rfl (by decide)) (SetAt.eq (.s (.s (.s .z)))) ?_
      refine d_endS (env2 := [(9, [.c (.box 5 0)]), (8, [.c (.box 4 0)]), (7, [.c (.box 3 0)]), (6, [.c (.box 2 0)]), (3, [.c (.box 0 0)]), (1, [.c (.pv (.int .i64 a1))])]) (wm [0, 0, 0, 0, 15, 0, 0, 127, 0, 255, 1023]) (by kernel_rfl) (by kernel_rfl) (by kernel_rfl) (oN 11 (by kernel_rfl) trivial) (sub_cons rfl (sub_cons rfl (sub_cons rfl (sub_cons rfl (sub_cons rfl (sub_cons rfl sub_nil)))))) wT ?_
      refine then_ ?_
      refine ret_ ?_
      obtain rfl := retE h
      refine tR (rwr (rw_ (.cellA (ys := (bs (e_num_Num v9))) ty64 rfl rfl (by kernel_rfl) (by kernel_rfl) (.cellA (ys := [.pv (.bool v1.2.Overflow), .pv (.bool v1.2.DivZero)]) ty305 rfl rfl (by kernel_rfl) (by kernel_rfl) .nil)) ?_))
      refine w_none 0 .z ?_
      refine w_none 1 (.s .z) ?_
      refine w_none 2 (.s (.s .z)) ?_
      refine w_none 3 (.s (.s (.s .z))) ?_
      refine w_none 4 (.s (.s (.s (.s .z)))) ?_
      refine w_none 5 (.s (.s (.s (.s (.s .z))))) ?_
      refine w_cut 0 rfl rfl rfl rfl ?_
      exact wkE (by kernel_rfl) (by kernel_rfl)
    · have h := iteF h k7
      refine skip_ ?_
      refine then_ ?_
      refine seq_ ?_
      refine drawn_ mixed ?_
      refine dl (t := 42) 0 [.agg (bs (e_num_Num a0))] rfl ?_
      refine dl (t := 43) 1 [.c (.pv (.int .i64 a1))] rfl ?_
      refine dl (t := 44) 2 [.agg [.pv (.int .i64 v1.1.Lo), .pv (.int .i64 v1.1.Hi)]] rfl ?_
      obtain ⟨v11, k13, h⟩ := bindE h
      refine dl (t := 45) 3 [.agg (bs (e_num_Num v11))] rfl ?_
      refine dl (t := 46) 4 [.agg [.pv (.bool v1.2.Overflow), .pv (.bool v1.2.DivZero)]] rfl ?_
      refine d_store (wm [0, 0, 0, 7, 0, 15, 63]) 5 rfl (by kernel_rfl) (by kernel_rfl) (by kernel_rfl) (by kernel_rfl) (by kernel_rfl) (gi0 rfl) (oE tbok [] 1 (by kernel_rfl) (oL [] rfl (by kernel_rfl) (fl_call rfl Tryz.call51 rfl (by kernel_rfl) (by kernel_rfl) (num_Set_meets k13)) (oE tbok [] 3 (by kernel_rfl) trivial))) rfl rfl ty64 rfl rfl rfl rfl rfl rfl (putE 53 (.all rfl) rfl (by decide)) (SetAt.eq (.s (.s .z))) ?_
      refine d_store (wm [0, 0, 0, 7, 0, 15, 63]) 6 rfl (by kernel_rfl) (by kernel_rfl) (by kernel_rfl) (by kernel_rfl) (by kernel_rfl) (gi0 rfl) (oN 1 (by kernel_rfl) (oE tbok [] 1 (by kernel_rfl) (oN 4 (by kernel_rfl) trivial))) rfl rfl ty305 rfl rfl rfl rfl rfl rfl (putE 2 (.all rfl) rfl (by decide)) (SetAt.eq (.s (.s (.s .z)))) ?_
      refine d_endS (env2 := [(7, [.c (.box 3 0)]), (6, [.c (.box 2 0)])]) (wm [0, 0, 0, 7, 0, 15, 63]) (by kernel_rfl) (by kernel_rfl) (by kernel_rfl) (oN 7 (by kernel_rfl) trivial) (sub_cons rfl (sub_cons rfl sub_nil)) wT ?_
      refine then_ ?_
      refine ret_ ?_
      obtain rfl := retE h
      refine rwr (rw_ (.cellA (ys := (bs (e_num_Num v11))) ty64 rfl rfl (by kernel_rfl) (by kernel_rfl) (.cellA (ys := [.pv (.bool v1.2.Overflow), .pv (.bool v1.2.DivZero)]) ty305 rfl rfl (by kernel_rfl) (by kernel_rfl) .nil)) ?_)
      refine w_none 0 .z ?_
      refine w_none 1 (.s .z) ?_
      refine w_none 2 (.s (.s .z)) ?_
      refine w_none 3 (.s (.s (.s .z))) ?_
      refine w_none 4 (.s (.s (.s (.s .z)))) ?_
      refine w_none 5 (.s (.s (.s (.s (.s .z))))) ?_
      refine w_cut 0 rfl rfl rfl rfl ?_
      exact wkE (by kernel_rfl) (by kernel_rfl)

theorem trans_stepper_may_meets {a0 : trans_stepper} {a1 : itv_Errs} {r : trans_stepper} (h : trans_stepper_may a0 a1 = some r) : MeetsS Tryz.prog GG 144 [.c (.box 0 0), .agg [.pv (.bool a1.Overflow), .pv (.bool a1.DivZero)]] [some (.box true 171 ([.pv (.sl (List.map e_check_Chan a0.f_w.S.Chans)), .pv (.sl (List.map e_flow_Graph a0.f_w.S.Graphs)), .pv (.sl (List.map e_i64 a0.f_w.S.Vars)), .pv (.sl (List.map e_queue_Elem a0.f_w.Elems)), .pv (.sl (List.map e_bool a0.f_w.Deaf)), .pv (.int .i64 a0.f_proc), .pv (.sl (List.map e_i64 a0.f_out)), .pv (.int .i64 a0.f_at), .pv (.int .i64 a0.f_e.From), .pv (.int .i64 a0.f_e.To), .pv (.int .i64 a0.f_e.Kind), .pv (.int .i64 a0.f_e.Var), .pv (.int .i64 a0.f_e.Chan), .pv (.int .i64 a0.f_e.Tag), .pv (.int .i64 a0.f_e.E.Kind), .pv (.int .i64 a0.f_e.E.Num), .pv (.int .i64 a0.f_e.E.Var), .pv (.sl (List.map e_check_Expr a0.f_e.E.Kids)), .pv (.int .i64 a0.f_e.C.Op), .pv (.int .i64 a0.f_e.C.L.Kind), .pv (.int .i64 a0.f_e.C.L.Num), .pv (.int .i64 a0.f_e.C.L.Var), .pv (.sl (List.map e_check_Expr a0.f_e.C.L.Kids)), .pv (.int .i64 a0.f_e.C.R.Kind), .pv (.int .i64 a0.f_e.C.R.Num), .pv (.int .i64 a0.f_e.C.R.Var), .pv (.sl (List.map e_check_Expr a0.f_e.C.R.Kids)), .pv (.bool a0.f_a.N.None), .pv (.sl (List.map e_itv_Itv a0.f_a.N.I)), .pv (.int .i64 a0.f_a.N.Z.N), .pv (.bool a0.f_a.N.Z.None)] ++ (bs (e_T60 a0.f_a.N.Z.D) ++ ([.row 1, .row 2, .pv (.int .i64 a0.f_sent.Chan), .pv (.int .i64 a0.f_sent.Tag), .pv (.int .i64 a0.f_sent.Vals.Lo), .pv (.int .i64 a0.f_sent.Vals.Hi)] ++ bs (e_T169 a0.f_errors))))), some (.row true false 72 2 (List.map e_itv_Itv a0.f_a.Counts)), some (.row true false 161 1 (List.map e_rule_Set a0.f_a.Rules))] [] [some (.box true 171 ([.pv (.sl (List.map e_check_Chan r.f_w.S.Chans)), .pv (.sl (List.map e_flow_Graph r.f_w.S.Graphs)), .pv (.sl (List.map e_i64 r.f_w.S.Vars)), .pv (.sl (List.map e_queue_Elem r.f_w.Elems)), .pv (.sl (List.map e_bool r.f_w.Deaf)), .pv (.int .i64 r.f_proc), .pv (.sl (List.map e_i64 r.f_out)), .pv (.int .i64 r.f_at), .pv (.int .i64 r.f_e.From), .pv (.int .i64 r.f_e.To), .pv (.int .i64 r.f_e.Kind), .pv (.int .i64 r.f_e.Var), .pv (.int .i64 r.f_e.Chan), .pv (.int .i64 r.f_e.Tag), .pv (.int .i64 r.f_e.E.Kind), .pv (.int .i64 r.f_e.E.Num), .pv (.int .i64 r.f_e.E.Var), .pv (.sl (List.map e_check_Expr r.f_e.E.Kids)), .pv (.int .i64 r.f_e.C.Op), .pv (.int .i64 r.f_e.C.L.Kind), .pv (.int .i64 r.f_e.C.L.Num), .pv (.int .i64 r.f_e.C.L.Var), .pv (.sl (List.map e_check_Expr r.f_e.C.L.Kids)), .pv (.int .i64 r.f_e.C.R.Kind), .pv (.int .i64 r.f_e.C.R.Num), .pv (.int .i64 r.f_e.C.R.Var), .pv (.sl (List.map e_check_Expr r.f_e.C.R.Kids)), .pv (.bool r.f_a.N.None), .pv (.sl (List.map e_itv_Itv r.f_a.N.I)), .pv (.int .i64 r.f_a.N.Z.N), .pv (.bool r.f_a.N.Z.None)] ++ (bs (e_T60 r.f_a.N.Z.D) ++ ([.row 1, .row 2, .pv (.int .i64 r.f_sent.Chan), .pv (.int .i64 r.f_sent.Tag), .pv (.int .i64 r.f_sent.Vals.Lo), .pv (.int .i64 r.f_sent.Vals.Hi)] ++ bs (e_T169 r.f_errors))))), some (.row true true 72 2 (List.map e_itv_Itv r.f_a.Counts)), some (.row true true 161 1 (List.map e_rule_Set r.f_a.Rules))] := by
  refine meetsW_of (N := 30) r_trans_stepper_may o_trans_stepper_may r Tryz.func144 rfl rfl rfl (by dsimp only [argEnv]) rfl ?_
  unfold trans_stepper_may at h
  refine seq_ ?_
  refine region_ ?_
  refine B rfl rfl (bir_box rfl rfl rfl) rfl rfl (.s (.s (.s .z))) ?_
  refine ops_nil ?_
  refine then_ ?_
  refine seq_ ?_
  refine jn_ (fun (j1 : trans_stepper) => (⟨30, 3, [(0, [.c (.box 0 0)]), (3, [.c (.box 3 0)])], [some (.box true 171 ([.pv (.sl (List.map e_check_Chan j1.f_w.S.Chans)), .pv (.sl (List.map e_flow_Graph j1.f_w.S.Graphs)), .pv (.sl (List.map e_i64 j1.f_w.S.Vars)), .pv (.sl (List.map e_queue_Elem j1.f_w.Elems)), .pv (.sl (List.map e_bool j1.f_w.Deaf)), .pv (.int .i64 j1.f_proc), .pv (.sl (List.map e_i64 j1.f_out)), .pv (.int .i64 j1.f_at), .pv (.int .i64 j1.f_e.From), .pv (.int .i64 j1.f_e.To), .pv (.int .i64 j1.f_e.Kind), .pv (.int .i64 j1.f_e.Var), .pv (.int .i64 j1.f_e.Chan), .pv (.int .i64 j1.f_e.Tag), .pv (.int .i64 j1.f_e.E.Kind), .pv (.int .i64 j1.f_e.E.Num), .pv (.int .i64 j1.f_e.E.Var), .pv (.sl (List.map e_check_Expr j1.f_e.E.Kids)), .pv (.int .i64 j1.f_e.C.Op), .pv (.int .i64 j1.f_e.C.L.Kind), .pv (.int .i64 j1.f_e.C.L.Num), .pv (.int .i64 j1.f_e.C.L.Var), .pv (.sl (List.map e_check_Expr j1.f_e.C.L.Kids)), .pv (.int .i64 j1.f_e.C.R.Kind), .pv (.int .i64 j1.f_e.C.R.Num), .pv (.int .i64 j1.f_e.C.R.Var), .pv (.sl (List.map e_check_Expr j1.f_e.C.R.Kids)), .pv (.bool j1.f_a.N.None), .pv (.sl (List.map e_itv_Itv j1.f_a.N.I)), .pv (.int .i64 j1.f_a.N.Z.N), .pv (.bool j1.f_a.N.Z.None)] ++ (bs (e_T60 j1.f_a.N.Z.D) ++ ([.row 1, .row 2, .pv (.int .i64 j1.f_sent.Chan), .pv (.int .i64 j1.f_sent.Tag), .pv (.int .i64 j1.f_sent.Vals.Lo), .pv (.int .i64 j1.f_sent.Vals.Hi)] ++ bs (e_T169 j1.f_errors))))), some (.row true false 72 2 (List.map e_itv_Itv a0.f_a.Counts)), some (.row true false 161 1 (List.map e_rule_Set a0.f_a.Rules)), some (.box true 305 [.pv (.bool a1.Overflow), .pv (.bool a1.DivZero)])]⟩ : Sx)) h wT (fun o h => ?_) (fun j1 h => ?_)
  · refine drawn_ mixed ?_
    refine dl (t := 4) 0 [.c (.box 0 0)] rfl ?_
    refine dl (t := 5) 1 [.c (.box 0 0)] rfl ?_
    refine dl (t := 6) 2 [.c (.box 0 0)] rfl ?_
    refine dl (t := 7) 3 [.c (.box 0 86)] rfl ?_
    refine dl (t := 8) 4 [.c (.box 0 88)] rfl ?_
    refine dl (t := 9) 5 [.c (.pv (.bool (a0.f_errors 2)))] rfl ?_
    refine dl (t := 10) 6 [.c (.pv (.bool (a0.f_errors 2)))] rfl ?_
    refine (tf (a0.f_errors 2)).elim (fun k1 => ?_) (fun k1 => ?_)
    · have h := iteT h k1
      refine ds (t := 11) 7 rfl ?_
      refine ds (t := 12) 8 rfl ?_
      refine dl (t := 13) 9 [.c (.pv (.bool true))] rfl ?_
      refine dl (t := 14) 10 [.c (.box 0 0)] rfl ?_
      refine dl (t := 15) 11 [.c (.box 0 86)] rfl ?_
      refine dl (t := 16) 12 [.c (.box 0 88)] rfl ?_
      obtain ⟨v1, k2, h⟩ := bindE h
      refine d_store (cs' := ([.pv (.sl (List.map e_check_Chan v1.f_w.S.Chans)), .pv (.sl (List.map e_flow_Graph v1.f_w.S.Graphs)), .pv (.sl (List.map e_i64 v1.f_w.S.Vars)), .pv (.sl (List.map e_queue_Elem v1.f_w.Elems)), .pv (.sl (List.map e_bool v1.f_w.Deaf)), .pv (.int .i64 v1.f_proc), .pv (.sl (List.map e_i64 v1.f_out)), .pv (.int .i64 v1.f_at), .pv (.int .i64 v1.f_e.From), .pv (.int .i64 v1.f_e.To), .pv (.int .i64 v1.f_e.Kind), .pv (.int .i64 v1.f_e.Var), .pv (.int .i64 v1.f_e.Chan), .pv (.int .i64 v1.f_e.Tag), .pv (.int .i64 v1.f_e.E.Kind), .pv (.int .i64 v1.f_e.E.Num), .pv (.int .i64 v1.f_e.E.Var), .pv (.sl (List.map e_check_Expr v1.f_e.E.Kids)), .pv (.int .i64 v1.f_e.C.Op), .pv (.int .i64 v1.f_e.C.L.Kind), .pv (.int .i64 v1.f_e.C.L.Num), .pv (.int .i64 v1.f_e.C.L.Var), .pv (.sl (List.map e_check_Expr v1.f_e.C.L.Kids)), .pv (.int .i64 v1.f_e.C.R.Kind), .pv (.int .i64 v1.f_e.C.R.Num), .pv (.int .i64 v1.f_e.C.R.Var), .pv (.sl (List.map e_check_Expr v1.f_e.C.R.Kids)), .pv (.bool v1.f_a.N.None), .pv (.sl (List.map e_itv_Itv v1.f_a.N.I)), .pv (.int .i64 v1.f_a.N.Z.N), .pv (.bool v1.f_a.N.Z.None)] ++ (bs (e_T60 v1.f_a.N.Z.D) ++ ([.row 1, .row 2, .pv (.int .i64 v1.f_sent.Chan), .pv (.int .i64 v1.f_sent.Tag), .pv (.int .i64 v1.f_sent.Vals.Lo), .pv (.int .i64 v1.f_sent.Vals.Hi)] ++ bs (e_T169 v1.f_errors))))) (wm [0, 0, 2, 6, 14, 30, 62, 126, 254, 510, 1, 1025, 4095, 8191]) 13 rfl (by kernel_rfl) (by kernel_rfl) (by kernel_rfl) (by kernel_rfl) (by kernel_rfl) (gi0 rfl) (oL [] rfl (by kernel_rfl) (fl_lt (ia_box rfl u169 ty4 rfl rfl rfl 88 rfl)) (oE tbok [] 2 (by kernel_rfl) (oL [] rfl (by kernel_rfl) (fl_lt (lt_pickT rfl rfl k1 rfl)) (owF (by kernel_rfl) (fo_s [] rfl rfl rfl (by kernel_rfl) (by kernel_rfl) (by kernel_rfl) (gi1 rfl rfl rfl (beF k1))) (owF (by kernel_rfl) (fo_s [] rfl rfl rfl (by kernel_rfl) (by kernel_rfl) (by kernel_rfl) (gi1 rfl rfl rfl (beF k1))) (oE tbok [] 2 (by kernel_rfl) (oL [] rfl (by kernel_rfl) (fl_lt (ia_box rfl u169 ty4 rfl rfl rfl 88 rfl)) (oE tbok [] 4 (by kernel_rfl) trivial)))))))) rfl rfl ty4 rfl rfl rfl rfl rfl rfl (by rw [← retE k2]; kernel_rfl) (SetAt.eq .z) ?_
      refine d_endS (env2 := [(3, [.c (.box 3 0)]), (0, [.c (.box 0 0)])]) (wm [0, 0, 2, 6, 14, 30, 62, 126, 254, 510, 1, 1025, 4095, 8191]) (by kernel_rfl) (by kernel_rfl) (by kernel_rfl) (oN 14 (by kernel_rfl) trivial) (sub_cons rfl (sub_cons rfl sub_nil)) wM ?_
      obtain rfl := retE h
      refine mN ?_
      refine w_sub (env' := [(0, [.c (.box 0 0)]), (3, [.c (.box 3 0)])]) (sub_cons rfl (sub_cons rfl sub_nil)) ?_
      exact wkE (by kernel_rfl) (by kernel_rfl)
    · have h := iteF h k1
      refine dl (t := 11) 7 [.c (.box 3 0)] rfl ?_
      refine dl (t := 12) 8 [.c (.pv (.bool a1.Overflow))] rfl ?_
      refine dl (t := 13) 9 [.c (.pv (.bool a1.Overflow))] rfl ?_
      refine dl (t := 14) 10 [.c (.box 0 0)] rfl ?_
      refine dl (t := 15) 11 [.c (.box 0 86)] rfl ?_
      refine dl (t := 16) 12 [.c (.box 0 88)] rfl ?_
      obtain ⟨v2, k3, h⟩ := bindE h
      refine d_store (cs' := ([.pv (.sl (List.map e_check_Chan v2.f_w.S.Chans)), .pv (.sl (List.map e_flow_Graph v2.f_w.S.Graphs)), .pv (.sl (List.map e_i64 v2.f_w.S.Vars)), .pv (.sl (List.map e_queue_Elem v2.f_w.Elems)), .pv (.sl (List.map e_bool v2.f_w.Deaf)), .pv (.int .i64 v2.f_proc), .pv (.sl (List.map e_i64 v2.f_out)), .pv (.int .i64 v2.f_at), .pv (.int .i64 v2.f_e.From), .pv (.int .i64 v2.f_e.To), .pv (.int .i64 v2.f_e.Kind), .pv (.int .i64 v2.f_e.Var), .pv (.int .i64 v2.f_e.Chan), .pv (.int .i64 v2.f_e.Tag), .pv (.int .i64 v2.f_e.E.Kind), .pv (.int .i64 v2.f_e.E.Num), .pv (.int .i64 v2.f_e.E.Var), .pv (.sl (List.map e_check_Expr v2.f_e.E.Kids)), .pv (.int .i64 v2.f_e.C.Op), .pv (.int .i64 v2.f_e.C.L.Kind), .pv (.int .i64 v2.f_e.C.L.Num), .pv (.int .i64 v2.f_e.C.L.Var), .pv (.sl (List.map e_check_Expr v2.f_e.C.L.Kids)), .pv (.int .i64 v2.f_e.C.R.Kind), .pv (.int .i64 v2.f_e.C.R.Num), .pv (.int .i64 v2.f_e.C.R.Var), .pv (.sl (List.map e_check_Expr v2.f_e.C.R.Kids)), .pv (.bool v2.f_a.N.None), .pv (.sl (List.map e_itv_Itv v2.f_a.N.I)), .pv (.int .i64 v2.f_a.N.Z.N), .pv (.bool v2.f_a.N.Z.None)] ++ (bs (e_T60 v2.f_a.N.Z.D) ++ ([.row 1, .row 2, .pv (.int .i64 v2.f_sent.Chan), .pv (.int .i64 v2.f_sent.Tag), .pv (.int .i64 v2.f_sent.Vals.Lo), .pv (.int .i64 v2.f_sent.Vals.Hi)] ++ bs (e_T169 v2.f_errors))))) (wm [0, 0, 2, 6, 14, 30, 62, 126, 254, 510, 1, 1025, 4095, 8191]) 13 rfl (by kernel_rfl) (by kernel_rfl) (by kernel_rfl) (by kernel_rfl) (by kernel_rfl) (gi0 rfl) (oL [] rfl (by kernel_rfl) (fl_lt (ia_box rfl u169 ty4 rfl rfl rfl 88 rfl)) (oE tbok [] 2 (by kernel_rfl) (oL [] rfl (by kernel_rfl) (fl_lt (lt_pickF rfl rfl k1 rfl)) (owF (by kernel_rfl) (fo_l [] rfl rfl rfl (by kernel_rfl) (by kernel_rfl) (by kernel_rfl) (gi1 rfl rfl rfl (beT k1)) (fl_lt (lt_load_box rfl ty4 rfl rfl rfl))) (owF (by kernel_rfl) (fo_l [] rfl rfl rfl (by kernel_rfl) (by kernel_rfl) (by kernel_rfl) (gi1 rfl rfl rfl (beT k1)) (fl_lt (lt_fa_box rfl f305_0 ty4 (by decide) rfl))) (oE tbok [] 2 (by kernel_rfl) (oL [] rfl (by kernel_rfl) (fl_lt (ia_box rfl u169 ty4 rfl rfl rfl 88 rfl)) (oE tbok [] 4 (by kernel_rfl) trivial)))))))) rfl rfl ty4 rfl rfl rfl rfl rfl rfl (by rw [← retE k3]; kernel_rfl) (SetAt.eq .z) ?_
      refine d_endS (env2 := [(3, [.c (.box 3 0)]), (0, [.c (.box 0 0)])]) (wm [0, 0, 2, 6, 14, 30, 62, 126, 254, 510, 1, 1025, 4095, 8191]) (by kernel_rfl) (by kernel_rfl) (by kernel_rfl) (oN 14 (by kernel_rfl) trivial) (sub_cons rfl (sub_cons rfl sub_nil)) wM ?_
      obtain rfl := retE h
      refine mN ?_
      refine w_sub (env' := [(0, [.c (.box 0 0)]), (3, [.c (.box 3 0)])]) (sub_cons rfl (sub_cons rfl sub_nil)) ?_
      exact wkE (by kernel_rfl) (by kernel_rfl)
  · refine then_ ?_
    refine drawn_ mixed ?_
    refine dl (t := 17) 0 [.c (.box 0 0)] rfl ?_
    refine dl (t := 18) 1 [.c (.box 0 0)] rfl ?_
    refine dl (t := 19) 2 [.c (.box 0 0)] rfl ?_
    refine dl (t := 20) 3 [.c (.box 0 86)] rfl ?_
    refine dl (t := 21) 4 [.c (.box 0 89)] rfl ?_
    refine dl (t := 22) 5 [.c (.pv (.bool (j1.f_errors 3)))] rfl ?_
    refine dl (t := 23) 6 [.c (.pv (.bool (j1.f_errors 3)))] rfl ?_
    refine (tf (j1.f_errors 3)).elim (fun k4 => ?_) (fun k4 => ?_)
    · have h := iteT h k4
      refine ds (t := 24) 7 rfl ?_
      refine ds (t := 25) 8 rfl ?_
      refine dl (t := 26) 9 [.c (.pv (.bool true))] rfl ?_
      refine dl (t := 27) 10 [.c (.box 0 0)] rfl ?_
      refine dl (t := 28) 11 [.c (.box 0 86)] rfl ?_
      refine dl (t := 29) 12 [.c (.box 0 89)] rfl ?_
      obtain ⟨v3, k5, h⟩ := bindE h
      refine d_store (cs' := ([.pv (.sl (List.map e_check_Chan v3.f_w.S.Chans)), .pv (.sl (List.map e_flow_Graph v3.f_w.S.Graphs)), .pv (.sl (List.map e_i64 v3.f_w.S.Vars)), .pv (.sl (List.map e_queue_Elem v3.f_w.Elems)), .pv (.sl (List.map e_bool v3.f_w.Deaf)), .pv (.int .i64 v3.f_proc), .pv (.sl (List.map e_i64 v3.f_out)), .pv (.int .i64 v3.f_at), .pv (.int .i64 v3.f_e.From), .pv (.int .i64 v3.f_e.To), .pv (.int .i64 v3.f_e.Kind), .pv (.int .i64 v3.f_e.Var), .pv (.int .i64 v3.f_e.Chan), .pv (.int .i64 v3.f_e.Tag), .pv (.int .i64 v3.f_e.E.Kind), .pv (.int .i64 v3.f_e.E.Num), .pv (.int .i64 v3.f_e.E.Var), .pv (.sl (List.map e_check_Expr v3.f_e.E.Kids)), .pv (.int .i64 v3.f_e.C.Op), .pv (.int .i64 v3.f_e.C.L.Kind), .pv (.int .i64 v3.f_e.C.L.Num), .pv (.int .i64 v3.f_e.C.L.Var), .pv (.sl (List.map e_check_Expr v3.f_e.C.L.Kids)), .pv (.int .i64 v3.f_e.C.R.Kind), .pv (.int .i64 v3.f_e.C.R.Num), .pv (.int .i64 v3.f_e.C.R.Var), .pv (.sl (List.map e_check_Expr v3.f_e.C.R.Kids)), .pv (.bool v3.f_a.N.None), .pv (.sl (List.map e_itv_Itv v3.f_a.N.I)), .pv (.int .i64 v3.f_a.N.Z.N), .pv (.bool v3.f_a.N.Z.None)] ++ (bs (e_T60 v3.f_a.N.Z.D) ++ ([.row 1, .row 2, .pv (.int .i64 v3.f_sent.Chan), .pv (.int .i64 v3.f_sent.Tag), .pv (.int .i64 v3.f_sent.Vals.Lo), .pv (.int .i64 v3.f_sent.Vals.Hi)] ++ bs (e_T169 v3.f_errors))))) (wm [0, 0, 2, 6, 14, 30, 62, 126, 254, 510, 1, 1025, 4095, 8191]) 13 rfl (by kernel_rfl) (by kernel_rfl) (by kernel_rfl) (by kernel_rfl) (by kernel_rfl) (gi0 rfl) (oL [] rfl (by kernel_rfl) (fl_lt (ia_box rfl u169 ty4 rfl rfl rfl 89 rfl)) (oE tbok [] 2 (by kernel_rfl) (oL [] rfl (by kernel_rfl) (fl_lt (lt_pickT rfl rfl k4 rfl)) (owF (by kernel_rfl) (fo_s [] rfl rfl rfl (by kernel_rfl) (by kernel_rfl) (by kernel_rfl) (gi1 rfl rfl rfl (beF k4))) (owF (by kernel_rfl) (fo_s [] rfl rfl rfl (by kernel_rfl) (by kernel_rfl) (by kernel_rfl) (gi1 rfl rfl rfl (beF k4))) (oE tbok [] 2 (by kernel_rfl) (oL [] rfl (by kernel_rfl) (fl_lt (ia_box rfl u169 ty4 rfl rfl rfl 89 rfl)) (oE tbok [] 4 (by kernel_rfl) trivial)))))))) rfl rfl ty4 rfl rfl rfl rfl rfl rfl (by rw [← retE k5]; kernel_rfl) (SetAt.eq .z) ?_
      refine d_endS (env2 := []) (wm [0, 0, 2, 6, 14, 30, 62, 126, 254, 510, 1, 1025, 4095, 8191]) (by kernel_rfl) (by kernel_rfl) (by kernel_rfl) (oN 14 (by kernel_rfl) trivial) sub_nil wW ?_
      obtain rfl := retE h
      refine rwn .nil ?_
      refine w_none 3 (.s (.s (.s .z))) ?_
      refine w_ch 1 rfl (.s .z) ?_
      refine w_ch 2 rfl (.s (.s .z)) ?_
      refine w_cut 3 rfl rfl rfl rfl ?_
      exact wkE (by kernel_rfl) (by kernel_rfl)
    · have h := iteF h k4
      refine dl (t := 24) 7 [.c (.box 3 1)] rfl ?_
      refine dl (t := 25) 8 [.c (.pv (.bool a1.DivZero))] rfl ?_
      refine dl (t := 26) 9 [.c (.pv (.bool a1.DivZero))] rfl ?_
      refine dl (t := 27) 10 [.c (.box 0 0)] rfl ?_
      refine dl (t := 28) 11 [.c (.box 0 86)] rfl ?_
      refine dl (t := 29) 12 [.c (.box 0 89)] rfl ?_
      obtain ⟨v4, k6, h⟩ := bindE h
      refine d_store (cs' := ([.pv (.sl (List.map e_check_Chan v4.f_w.S.Chans)), .pv (.sl (List.map e_flow_Graph v4.f_w.S.Graphs)), .pv (.sl (List.map e_i64 v4.f_w.S.Vars)), .pv (.sl (List.map e_queue_Elem v4.f_w.Elems)), .pv (.sl (List.map e_bool v4.f_w.Deaf)), .pv (.int .i64 v4.f_proc), .pv (.sl (List.map e_i64 v4.f_out)), .pv (.int .i64 v4.f_at), .pv (.int .i64 v4.f_e.From), .pv (.int .i64 v4.f_e.To), .pv (.int .i64 v4.f_e.Kind), .pv (.int .i64 v4.f_e.Var), .pv (.int .i64 v4.f_e.Chan), .pv (.int .i64 v4.f_e.Tag), .pv (.int .i64 v4.f_e.E.Kind), .pv (.int .i64 v4.f_e.E.Num), .pv (.int .i64 v4.f_e.E.Var), .pv (.sl (List.map e_check_Expr v4.f_e.E.Kids)), .pv (.int .i64 v4.f_e.C.Op), .pv (.int .i64 v4.f_e.C.L.Kind), .pv (.int .i64 v4.f_e.C.L.Num), .pv (.int .i64 v4.f_e.C.L.Var), .pv (.sl (List.map e_check_Expr v4.f_e.C.L.Kids)), .pv (.int .i64 v4.f_e.C.R.Kind), .pv (.int .i64 v4.f_e.C.R.Num), .pv (.int .i64 v4.f_e.C.R.Var), .pv (.sl (List.map e_check_Expr v4.f_e.C.R.Kids)), .pv (.bool v4.f_a.N.None), .pv (.sl (List.map e_itv_Itv v4.f_a.N.I)), .pv (.int .i64 v4.f_a.N.Z.N), .pv (.bool v4.f_a.N.Z.None)] ++ (bs (e_T60 v4.f_a.N.Z.D) ++ ([.row 1, .row 2, .pv (.int .i64 v4.f_sent.Chan), .pv (.int .i64 v4.f_sent.Tag), .pv (.int .i64 v4.f_sent.Vals.Lo), .pv (.int .i64 v4.f_sent.Vals.Hi)] ++ bs (e_T169 v4.f_errors))))) (wm [0, 0, 2, 6, 14, 30, 62, 126, 254, 510, 1, 1025, 4095, 8191]) 13 rfl (by kernel_rfl) (by kernel_rfl) (by kernel_rfl) (by kernel_rfl) (by kernel_rfl) (gi0 rfl) (oL [] rfl (by kernel_rfl) (fl_lt (ia_box rfl u169 ty4 rfl rfl rfl 89 rfl)) (oE tbok [] 2 (by kernel_rfl) (oL [] rfl (by kernel_rfl) (fl_lt (lt_pickF rfl rfl k4 rfl)) (owF (by kernel_rfl) (fo_l [] rfl rfl rfl (by kernel_rfl) (by kernel_rfl) (by kernel_rfl) (gi1 rfl rfl rfl (beT k4)) (fl_lt (lt_load_box rfl ty4 rfl rfl rfl))) (owF (by kernel_rfl) (fo_l [] rfl rfl rfl (by kernel_rfl) (by kernel_rfl) (by kernel_rfl) (gi1 rfl rfl rfl (beT k4)) (fl_lt (lt_fa_box rfl f305_1 ty4 (by decide) rfl))) (oE tbok [] 2 (by kernel_rfl) (oL [] rfl (by kernel_rfl) (fl_lt (ia_box rfl u169 ty4 rfl rfl rfl 89 rfl)) (oE tbok [] 4 (by kernel_rfl) trivial)))))))) rfl rfl ty4 rfl rfl rfl rfl rfl rfl (by rw [← retE k6]; kernel_rfl) (SetAt.eq .z) ?_
      refine d_endS (env2 := []) (wm [0, 0, 2, 6, 14, 30, 62, 126, 254, 510, 1, 1025, 4095, 8191]) (by kernel_rfl) (by kernel_rfl) (by kernel_rfl) (oN 14 (by kernel_rfl) trivial) sub_nil wW ?_
      obtain rfl := retE h
      refine rwn .nil ?_
      refine w_none 3 (.s (.s (.s .z))) ?_
      refine w_ch 1 rfl (.s .z) ?_
      refine w_ch 2 rfl (.s (.s .z)) ?_
      refine w_cut 3 rfl rfl rfl rfl ?_
      exact wkE (by kernel_rfl) (by kernel_rfl)

theorem trans_stepper_assign_meets {a0 : trans_stepper} {r : trans_stepper} (h : trans_stepper_assign a0 = some r) : MeetsS Tryz.prog GG 99 [.c (.box 0 0)] [some (.box true 171 ([.pv (.sl (List.map e_check_Chan a0.f_w.S.Chans)), .pv (.sl (List.map e_flow_Graph a0.f_w.S.Graphs)), .pv (.sl (List.map e_i64 a0.f_w.S.Vars)), .pv (.sl (List.map e_queue_Elem a0.f_w.Elems)), .pv (.sl (List.map e_bool a0.f_w.Deaf)), .pv (.int .i64 a0.f_proc), .pv (.sl (List.map e_i64 a0.f_out)), .pv (.int .i64 a0.f_at), .pv (.int .i64 a0.f_e.From), .pv (.int .i64 a0.f_e.To), .pv (.int .i64 a0.f_e.Kind), .pv (.int .i64 a0.f_e.Var), .pv (.int .i64 a0.f_e.Chan), .pv (.int .i64 a0.f_e.Tag), .pv (.int .i64 a0.f_e.E.Kind), .pv (.int .i64 a0.f_e.E.Num), .pv (.int .i64 a0.f_e.E.Var), .pv (.sl (List.map e_check_Expr a0.f_e.E.Kids)), .pv (.int .i64 a0.f_e.C.Op), .pv (.int .i64 a0.f_e.C.L.Kind), .pv (.int .i64 a0.f_e.C.L.Num), .pv (.int .i64 a0.f_e.C.L.Var), .pv (.sl (List.map e_check_Expr a0.f_e.C.L.Kids)), .pv (.int .i64 a0.f_e.C.R.Kind), .pv (.int .i64 a0.f_e.C.R.Num), .pv (.int .i64 a0.f_e.C.R.Var), .pv (.sl (List.map e_check_Expr a0.f_e.C.R.Kids)), .pv (.bool a0.f_a.N.None), .pv (.sl (List.map e_itv_Itv a0.f_a.N.I)), .pv (.int .i64 a0.f_a.N.Z.N), .pv (.bool a0.f_a.N.Z.None)] ++ (bs (e_T60 a0.f_a.N.Z.D) ++ ([.row 1, .row 2, .pv (.int .i64 a0.f_sent.Chan), .pv (.int .i64 a0.f_sent.Tag), .pv (.int .i64 a0.f_sent.Vals.Lo), .pv (.int .i64 a0.f_sent.Vals.Hi)] ++ bs (e_T169 a0.f_errors))))), some (.row true false 72 2 (List.map e_itv_Itv a0.f_a.Counts)), some (.row true false 161 1 (List.map e_rule_Set a0.f_a.Rules))] [] [some (.box true 171 ([.pv (.sl (List.map e_check_Chan r.f_w.S.Chans)), .pv (.sl (List.map e_flow_Graph r.f_w.S.Graphs)), .pv (.sl (List.map e_i64 r.f_w.S.Vars)), .pv (.sl (List.map e_queue_Elem r.f_w.Elems)), .pv (.sl (List.map e_bool r.f_w.Deaf)), .pv (.int .i64 r.f_proc), .pv (.sl (List.map e_i64 r.f_out)), .pv (.int .i64 r.f_at), .pv (.int .i64 r.f_e.From), .pv (.int .i64 r.f_e.To), .pv (.int .i64 r.f_e.Kind), .pv (.int .i64 r.f_e.Var), .pv (.int .i64 r.f_e.Chan), .pv (.int .i64 r.f_e.Tag), .pv (.int .i64 r.f_e.E.Kind), .pv (.int .i64 r.f_e.E.Num), .pv (.int .i64 r.f_e.E.Var), .pv (.sl (List.map e_check_Expr r.f_e.E.Kids)), .pv (.int .i64 r.f_e.C.Op), .pv (.int .i64 r.f_e.C.L.Kind), .pv (.int .i64 r.f_e.C.L.Num), .pv (.int .i64 r.f_e.C.L.Var), .pv (.sl (List.map e_check_Expr r.f_e.C.L.Kids)), .pv (.int .i64 r.f_e.C.R.Kind), .pv (.int .i64 r.f_e.C.R.Num), .pv (.int .i64 r.f_e.C.R.Var), .pv (.sl (List.map e_check_Expr r.f_e.C.R.Kids)), .pv (.bool r.f_a.N.None), .pv (.sl (List.map e_itv_Itv r.f_a.N.I)), .pv (.int .i64 r.f_a.N.Z.N), .pv (.bool r.f_a.N.Z.None)] ++ (bs (e_T60 r.f_a.N.Z.D) ++ ([.row 1, .row 2, .pv (.int .i64 r.f_sent.Chan), .pv (.int .i64 r.f_sent.Tag), .pv (.int .i64 r.f_sent.Vals.Lo), .pv (.int .i64 r.f_sent.Vals.Hi)] ++ bs (e_T169 r.f_errors))))), some (.row true true 72 2 (List.map e_itv_Itv r.f_a.Counts)), some (.row true true 161 1 (List.map e_rule_Set r.f_a.Rules))] := by
  refine meetsW_of (N := 31) r_trans_stepper_assign o_trans_stepper_assign r Tryz.func99 rfl rfl rfl (by dsimp only [argEnv]) rfl ?_
  unfold trans_stepper_assign at h
  refine seq_ ?_
  refine drawn_ mixed ?_
  refine dl (t := 5) 0 [.c (.box 0 0)] rfl ?_
  refine dl (t := 6) 1 [.c (.box 0 0)] rfl ?_
  refine dl (t := 7) 2 [.c (.box 0 27)] rfl ?_
  refine dl (t := 8) 3 [.c (.box 0 27)] rfl ?_
  refine dl (t := 9) 4 [.agg (bs (e_num_Num a0.f_a.N))] rfl ?_
  refine dl (t := 10) 5 [.c (.box 0 0)] rfl ?_
  refine dl (t := 11) 6 [.c (.box 0 0)] rfl ?_
  refine dl (t := 12) 7 [.c (.box 0 8)] rfl ?_
  refine dl (t := 13) 8 [.c (.box 0 11)] rfl ?_
  refine dl (t := 14) 9 [.c (.pv (.int .i64 a0.f_e.Var))] rfl ?_
  refine dl (t := 15) 10 [.c (.box 0 0)] rfl ?_
  refine dl (t := 16) 11 [.c (.box 0 0)] rfl ?_
  refine dl (t := 17) 12 [.c (.box 0 8)] rfl ?_
  refine dl (t := 18) 13 [.c (.box 0 14)] rfl ?_
  refine dl (t := 19) 14 [.agg [.pv (.int .i64 a0.f_e.E.Kind), .pv (.int .i64 a0.f_e.E.Num), .pv (.int .i64 a0.f_e.E.Var), .pv (.sl (List.map e_check_Expr a0.f_e.E.Kids))]] rfl ?_
  obtain ⟨v2, k2, h⟩ := bindE h
  refine dl (t := 20) 15 [.agg (bs (e_num_Num v2.1)), .agg [.pv (.bool v2.2.Overflow), .pv (.bool v2.2.DivZero)]] rfl ?_
  refine dl (t := 4) 16 [.agg (bs (e_num_Num v2.1)), .agg [.pv (.bool v2.2.Overflow), .pv (.bool v2.2.DivZero)]] rfl ?_
  refine dl (t := 21) 17 [.agg (bs (e_num_Num v2.1))] rfl ?_
  refine dl (t := 22) 18 [.agg [.pv (.bool v2.2.Overflow), .pv (.bool v2.2.DivZero)]] rfl ?_
  refine db (t := 2) 19 3 [.c (.box 3 0)] ((.box true 64 ([.pv (.bool false), .emp, .pv (.int .i64 0), .pv (.bool false)] ++ bs (e_T60 (arr (arr 0 []) [(arr 0 [0, 0, 0, 0, 0, 0, 0]), (arr 0 [0, 0, 0, 0, 0, 0, 0]), (arr 0 [0, 0, 0, 0, 0, 0, 0]), (arr 0 [0, 0, 0, 0, 0, 0, 0]), (arr 0 [0, 0, 0, 0, 0, 0, 0]), (arr 0 [0, 0, 0, 0, 0, 0, 0]), (arr 0 [0, 0, 0, 0, 0, 0, 0])]))))) rfl rfl (Push.eq (.s (.s (.s .z)))) ?_
  refine db (t := 3) 20 4 [.c (.box 4 0)] ((.box true 305 [.pv (.bool false), .pv (.bool false)])) rfl rfl (Push.eq (.s (.s (.s (.s .z))))) ?_
  refine d_store (wm [0, 1, 3, 7, 15, 0, 32, 96, 224, 480, 0, 1024, 3072, 7168, 15360, 32767, 65535, 131071, 131071, 0, 0, 1835007, 4194303]) 21 rfl (by kernel_rfl) (by kernel_rfl) (by kernel_rfl) (by kernel_rfl) (by kernel_rfl) (gi0 rfl) (owF (by kernel_rfl) (fo_b [4, 3] rfl rfl rfl (by kernel_rfl) (by kernel_rfl) (by kernel_rfl) (gi0 rfl) (bir_alloc rfl z305 rfl rfl) (by kernel_rfl) (by kernel_rfl)) (owF (by kernel_rfl) (fo_b [4, 3] rfl rfl rfl (by kernel_rfl) (by kernel_rfl) (by kernel_rfl) (gi0 rfl) (bir_alloc rfl z64 rfl rfl) (by kernel_rfl) (by kernel_rfl)) (oE tbok [4, 3] 3 (by kernel_rfl) (oL [4, 3] rfl (by kernel_rfl) (fl_call rfl Tryz.call143 rfl (by kernel_rfl) (by kernel_rfl) (eval_Assign_meets k2)) (oE tbok [4, 3] 15 (by kernel_rfl) trivial))))) rfl rfl ty64 rfl rfl rfl rfl rfl rfl (putE 53 (.all rfl) rfl (by decide)) (SetAt.eq (.s (.s (.s .z)))) ?_
  refine d_store (wm [0, 1, 3, 7, 15, 0, 32, 96, 224, 480, 0, 1024, 3072, 7168, 15360, 32767, 65535, 131071, 131071, 0, 0, 1835007, 4194303]) 22 rfl (by kernel_rfl) (by kernel_rfl) (by kernel_rfl) (by kernel_rfl) (by kernel_rfl) (gi0 rfl) (oN 3 (by kernel_rfl) (oE tbok [4, 3] 1 (by kernel_rfl) (oN 18 (by kernel_rfl) trivial))) rfl rfl ty305 rfl rfl rfl rfl rfl rfl (putE 2 (.all rfl) rfl (by decide)) (SetAt.eq (.s (.s (.s (.s .z))))) ?_
  refine d_endS (env2 := [(3, [.c (.box 4 0)]), (2, [.c (.box 3 0)]), (0, [.c (.box 0 0)])]) (wm [0, 1, 3, 7, 15, 0, 32, 96, 224, 480, 0, 1024, 3072, 7168, 15360, 32767, 65535, 131071, 131071, 0, 0, 1835007, 4194303]) (by kernel_rfl) (by kernel_rfl) (by kernel_rfl) (oN 23 (by kernel_rfl) trivial) (sub_cons rfl (sub_cons rfl (sub_cons rfl sub_nil))) wT ?_
  refine then_ ?_
  refine seq_ ?_
  refine region_ ?_
  refine R tbok 5 [27, 24, 3, 0] [(27, [.c (.box 0 27)]), (24, [.agg (bs (e_num_Num v2.1))]), (3, [.c (.box 4 0)]), (0, [.c (.box 0 0)])] (by kernel_rfl) ?_
  obtain ⟨v3, k3, h⟩ := bindE h
  refine SD ([.pv (.sl (List.map e_check_Chan v3.f_w.S.Chans)), .pv (.sl (List.map e_flow_Graph v3.f_w.S.Graphs)), .pv (.sl (List.map e_i64 v3.f_w.S.Vars)), .pv (.sl (List.map e_queue_Elem v3.f_w.Elems)), .pv (.sl (List.map e_bool v3.f_w.Deaf)), .pv (.int .i64 v3.f_proc), .pv (.sl (List.map e_i64 v3.f_out)), .pv (.int .i64 v3.f_at), .pv (.int .i64 v3.f_e.From), .pv (.int .i64 v3.f_e.To), .pv (.int .i64 v3.f_e.Kind), .pv (.int .i64 v3.f_e.Var), .pv (.int .i64 v3.f_e.Chan), .pv (.int .i64 v3.f_e.Tag), .pv (.int .i64 v3.f_e.E.Kind), .pv (.int .i64 v3.f_e.E.Num), .pv (.int .i64 v3.f_e.E.Var), .pv (.sl (List.map e_check_Expr v3.f_e.E.Kids)), .pv (.int .i64 v3.f_e.C.Op), .pv (.int .i64 v3.f_e.C.L.Kind), .pv (.int .i64 v3.f_e.C.L.Num), .pv (.int .i64 v3.f_e.C.L.Var), .pv (.sl (List.map e_check_Expr v3.f_e.C.L.Kids)), .pv (.int .i64 v3.f_e.C.R.Kind), .pv (.int .i64 v3.f_e.C.R.Num), .pv (.int .i64 v3.f_e.C.R.Var), .pv (.sl (List.map e_check_Expr v3.f_e.C.R.Kids)), .pv (.bool v3.f_a.N.None), .pv (.sl (List.map e_itv_Itv v3.f_a.N.I)), .pv (.int .i64 v3.f_a.N.Z.N), .pv (.bool v3.f_a.N.Z.None)] ++ (bs (e_T60 v3.f_a.N.Z.D) ++ ([.row 1, .row 2, .pv (.int .i64 v3.f_sent.Chan), .pv (.int .i64 v3.f_sent.Tag), .pv (.int .i64 v3.f_sent.Vals.Lo), .pv (.int .i64 v3.f_sent.Vals.Hi)] ++ bs (e_T169 v3.f_errors)))) rfl rfl rfl ty64 (by decide) rfl rfl rfl rfl rfl (Nat.le_of_ble_eq_true rfl) (by rw [← retE k3]; kernel_rfl) (SetAt.eq .z) ?_
  refine ops_nil ?_
  refine then_ ?_
  refine region_ ?_
  refine R tbok 2 [29, 28] [(29, [.agg [.pv (.bool v2.2.Overflow), .pv (.bool v2.2.DivZero)]]), (28, [.c (.box 0 0)])] (by kernel_rfl) ?_
  obtain ⟨v4, k4, h⟩ := bindE h
  refine callS (env' := [(29, [.agg [.pv (.bool v2.2.Overflow), .pv (.bool v2.2.DivZero)]]), (28, [.c (.box 0 0)])]) (argsX' := []) (st' := [some (.box true 171 ([.pv (.sl (List.map e_check_Chan v4.f_w.S.Chans)), .pv (.sl (List.map e_flow_Graph v4.f_w.S.Graphs)), .pv (.sl (List.map e_i64 v4.f_w.S.Vars)), .pv (.sl (List.map e_queue_Elem v4.f_w.Elems)), .pv (.sl (List.map e_bool v4.f_w.Deaf)), .pv (.int .i64 v4.f_proc), .pv (.sl (List.map e_i64 v4.f_out)), .pv (.int .i64 v4.f_at), .pv (.int .i64 v4.f_e.From), .pv (.int .i64 v4.f_e.To), .pv (.int .i64 v4.f_e.Kind), .pv (.int .i64 v4.f_e.Var), .pv (.int .i64 v4.f_e.Chan), .pv (.int .i64 v4.f_e.Tag), .pv (.int .i64 v4.f_e.E.Kind), .pv (.int .i64 v4.f_e.E.Num), .pv (.int .i64 v4.f_e.E.Var), .pv (.sl (List.map e_check_Expr v4.f_e.E.Kids)), .pv (.int .i64 v4.f_e.C.Op), .pv (.int .i64 v4.f_e.C.L.Kind), .pv (.int .i64 v4.f_e.C.L.Num), .pv (.int .i64 v4.f_e.C.L.Var), .pv (.sl (List.map e_check_Expr v4.f_e.C.L.Kids)), .pv (.int .i64 v4.f_e.C.R.Kind), .pv (.int .i64 v4.f_e.C.R.Num), .pv (.int .i64 v4.f_e.C.R.Var), .pv (.sl (List.map e_check_Expr v4.f_e.C.R.Kids)), .pv (.bool v4.f_a.N.None), .pv (.sl (List.map e_itv_Itv v4.f_a.N.I)), .pv (.int .i64 v4.f_a.N.Z.N), .pv (.bool v4.f_a.N.Z.None)] ++ (bs (e_T60 v4.f_a.N.Z.D) ++ ([.row 1, .row 2, .pv (.int .i64 v4.f_sent.Chan), .pv (.int .i64 v4.f_sent.Tag), .pv (.int .i64 v4.f_sent.Vals.Lo), .pv (.int .i64 v4.f_sent.Vals.Hi)] ++ bs (e_T169 v4.f_errors))))), some (.row true true 72 2 (List.map e_itv_Itv v4.f_a.Counts)), some (.row true true 161 1 (List.map e_rule_Set v4.f_a.Rules)), some (.box true 64 (bs (e_num_Num v2.1))), some (.box true 305 [.pv (.bool v2.2.Overflow), .pv (.bool v2.2.DivZero)])]) [0, 1, 2] [] rfl rfl rfl rfl Tryz.call144 rfl rfl (by kernel_rfl) (by kernel_rfl) (trans_stepper_may_meets k4) (by kernel_rfl) (by kernel_rfl) (by kernel_rfl) ?_
  refine ops_nil ?_
  obtain rfl := retE h
  refine rwn .nil ?_
  refine w_none 3 (.s (.s (.s .z))) ?_
  refine w_none 4 (.s (.s (.s (.s .z)))) ?_
  refine w_cut 3 rfl rfl rfl rfl ?_
  exact wkE (by kernel_rfl) (by kernel_rfl)

theorem flow_Not_meets {a0 : Int} {r : Int} (h : flow_Not a0 = some r) : MeetsV Tryz.prog GG 147 [.c (.pv (.int .i64 a0))] [.c (.pv (.int .i64 r))] := by
  refine MeetsS.toV (meetsW_of (st0 := []) (N := 16) r_flow_Not o_flow_Not r Tryz.func147 rfl rfl rfl (by dsimp only [argEnv]) rfl ?_) rfl
  unfold flow_Not at h
  refine seq_ ?_
  refine region_ ?_
  refine R tbok 1 [2, 0] [(2, [.c (.pv (.int .i64 0))]), (0, [.c (.pv (.int .i64 a0))])] (by kernel_rfl) ?_
  refine ops_nil ?_
  refine then_ ?_
  refine seq_ ?_
  refine seq_ ?_
  refine region_ ?_
  refine R tbok 1 [3, 2] [(3, [.c (.pv (.int .i64 a0))]), (2, [.c (.pv (.int .i64 0))])] (by kernel_rfl) ?_
  refine ops_nil ?_
  refine then_ ?_
  refine block_ ?_
  refine seq_ ?_
  refine region_ ?_
  refine R tbok 2 [4, 3, 2] [(4, [.c (.pv (.bool (a0 == 1)))]), (3, [.c (.pv (.int .i64 a0))]), (2, [.c (.pv (.int .i64 0))])] (by kernel_rfl) ?_
  refine ops_nil ?_
  refine then_ ?_
  refine cond_ (b := (a0 == 1)) rfl (fun k1 => ?_) (fun k1 => ?_)
  · have h := iteT h k1
    refine seq_ ?_
    refine region_ ?_
    refine R tbok 1 [2] [(2, [.c (.pv (.int .i64 2))])] (by kernel_rfl) ?_
    refine ops_nil ?_
    refine then_ ?_
    refine ret_ ?_
    obtain rfl := retE h
    refine bR (tR (rwr (rw_ (.tmp rfl .nil) ?_)))
    exact wkE (by kernel_rfl) (by kernel_rfl)
  · have h := iteF h k1
    refine seq_ ?_
    refine region_ ?_
    refine R tbok 2 [6, 3, 2] [(6, [.c (.pv (.bool (a0 == 2)))]), (3, [.c (.pv (.int .i64 a0))]), (2, [.c (.pv (.int .i64 0))])] (by kernel_rfl) ?_
    refine ops_nil ?_
    refine then_ ?_
    refine cond_ (b := (a0 == 2)) rfl (fun k2 => ?_) (fun k2 => ?_)
    · have h := iteT h k2
      refine seq_ ?_
      refine region_ ?_
      refine R tbok 1 [2] [(2, [.c (.pv (.int .i64 1))])] (by kernel_rfl) ?_
      refine ops_nil ?_
      refine then_ ?_
      refine ret_ ?_
      obtain rfl := retE h
      refine bR (tR (rwr (rw_ (.tmp rfl .nil) ?_)))
      exact wkE (by kernel_rfl) (by kernel_rfl)
    · have h := iteF h k2
      refine seq_ ?_
      refine region_ ?_
      refine R tbok 2 [8, 3, 2] [(8, [.c (.pv (.bool (a0 == 3)))]), (3, [.c (.pv (.int .i64 a0))]), (2, [.c (.pv (.int .i64 0))])] (by kernel_rfl) ?_
      refine ops_nil ?_
      refine then_ ?_
      refine cond_ (b := (a0 == 3)) rfl (fun k3 => ?_) (fun k3 => ?_)
      · have h := iteT h k3
        refine seq_ ?_
        refine region_ ?_
        refine R tbok 1 [2] [(2, [.c (.pv (.int .i64 6))])] (by kernel_rfl) ?_
        refine ops_nil ?_
        refine then_ ?_
        refine ret_ ?_
        obtain rfl := retE h
        refine bR (tR (rwr (rw_ (.tmp rfl .nil) ?_)))
        exact wkE (by kernel_rfl) (by kernel_rfl)
      · have h := iteF h k3
        refine seq_ ?_
        refine region_ ?_
        refine R tbok 2 [10, 3, 2] [(10, [.c (.pv (.bool (a0 == 4)))]), (3, [.c (.pv (.int .i64 a0))]), (2, [.c (.pv (.int .i64 0))])] (by kernel_rfl) ?_
        refine ops_nil ?_
        refine then_ ?_
        refine cond_ (b := (a0 == 4)) rfl (fun k4 => ?_) (fun k4 => ?_)
        · have h := iteT h k4
          refine seq_ ?_
          refine region_ ?_
          refine R tbok 1 [2] [(2, [.c (.pv (.int .i64 5))])] (by kernel_rfl) ?_
          refine ops_nil ?_
          refine then_ ?_
          refine ret_ ?_
          obtain rfl := retE h
          refine bR (tR (rwr (rw_ (.tmp rfl .nil) ?_)))
          exact wkE (by kernel_rfl) (by kernel_rfl)
        · have h := iteF h k4
          refine seq_ ?_
          refine region_ ?_
          refine R tbok 2 [12, 3, 2] [(12, [.c (.pv (.bool (a0 == 5)))]), (3, [.c (.pv (.int .i64 a0))]), (2, [.c (.pv (.int .i64 0))])] (by kernel_rfl) ?_
          refine ops_nil ?_
          refine then_ ?_
          refine cond_ (b := (a0 == 5)) rfl (fun k5 => ?_) (fun k5 => ?_)
          · have h := iteT h k5
            refine seq_ ?_
            refine region_ ?_
            refine R tbok 1 [2] [(2, [.c (.pv (.int .i64 4))])] (by kernel_rfl) ?_
            refine ops_nil ?_
            refine then_ ?_
            refine ret_ ?_
            obtain rfl := retE h
            refine bR (tR (rwr (rw_ (.tmp rfl .nil) ?_)))
            exact wkE (by kernel_rfl) (by kernel_rfl)
          · have h := iteF h k5
            refine seq_ ?_
            refine region_ ?_
            refine R tbok 2 [14, 2] [(14, [.c (.pv (.bool (a0 == 6)))]), (2, [.c (.pv (.int .i64 0))])] (by kernel_rfl) ?_
            refine ops_nil ?_
            refine then_ ?_
            refine cond_ (b := (a0 == 6)) rfl (fun k6 => ?_) (fun k6 => ?_)
            · have h := iteT h k6
              refine seq_ ?_
              refine region_ ?_
              refine R tbok 1 [2] [(2, [.c (.pv (.int .i64 3))])] (by kernel_rfl) ?_
              refine ops_nil ?_
              refine then_ ?_
              refine ret_ ?_
              obtain rfl := retE h
              refine bR (tR (rwr (rw_ (.tmp rfl .nil) ?_)))
              exact wkE (by kernel_rfl) (by kernel_rfl)
            · have h := iteF h k6
              refine skip_ ?_
              refine bN ?_
              refine then_ ?_
              refine seq_ ?_
              refine region_ ?_
              refine R tbok 1 [2] [(2, [.c (.pv (.int .i64 0))])] (by kernel_rfl) ?_
              refine ops_nil ?_
              refine then_ ?_
              refine ret_ ?_
              obtain rfl := retE h
              refine rwr (rw_ (.tmp rfl .nil) ?_)
              exact wkE (by kernel_rfl) (by kernel_rfl)

theorem eval_sides_meets {a0 : num_Num} {a1 : check_Cond} {r : (itv_Itv × itv_Itv × itv_Errs)} (h : eval_sides a0 a1 = some r) : MeetsV Tryz.prog GG 187 [.agg (bs (e_num_Num a0)), .agg (bs (e_check_Cond a1))] [.agg [.pv (.int .i64 r.1.Lo), .pv (.int .i64 r.1.Hi)], .agg [.pv (.int .i64 r.2.1.Lo), .pv (.int .i64 r.2.1.Hi)], .agg [.pv (.bool r.2.2.Overflow), .pv (.bool r.2.2.DivZero)]] := by
  refine MeetsS.toV (meetsW_of (st0 := []) (N := 35) r_eval_sides o_eval_sides r Tryz.func187 rfl rfl rfl (by dsimp only [argEnv]) rfl ?_) rfl
  unfold eval_sides at h
  refine seq_ ?_
  refine region_ ?_
  refine B rfl rfl (bir_box rfl rfl rfl) rfl rfl .z ?_
  refine B rfl rfl (bir_box rfl rfl rfl) rfl rfl (.s .z) ?_
  refine B rfl rfl (bir_alloc rfl z72 rfl rfl) rfl rfl (.s (.s .z)) ?_
  refine B rfl rfl (bir_alloc rfl z72 rfl rfl) rfl rfl (.s (.s (.s .z))) ?_
  refine B rfl rfl (bir_alloc rfl z305 rfl rfl) rfl rfl (.s (.s (.s (.s .z)))) ?_
  refine ops_nil ?_
  refine then_ ?_
  refine seq_ ?_
  refine region_ ?_
  refine R tbok 3 [14, 13, 6, 5, 4, 3, 2] [(14, [.agg (bs (e_num_Num a0))]), (13, [.agg [.pv (.int .i64 a1.L.Kind), .pv (.int .i64 a1.L.Num), .pv (.int .i64 a1.L.Var), .pv (.sl (List.map e_check_Expr a1.L.Kids))]]), (6, [.c (.box 4 0)]), (5, [.c (.box 3 0)]), (4, [.c (.box 2 0)]), (3, [.c (.box 1 0)]), (2, [.c (.box 0 0)])] (by kernel_rfl) ?_
  obtain ⟨v1, k1, h⟩ := bindE h
  refine C rfl rfl (fl_call rfl Tryz.call149 rfl (by kernel_rfl) (by kernel_rfl) (eval_Eval_meets k1)) rfl ?_
  refine R tbok 3 [17, 16, 6, 5, 4, 3, 2] [(17, [.agg [.pv (.bool v1.2.Overflow), .pv (.bool v1.2.DivZero)]]), (16, [.agg [.pv (.int .i64 v1.1.Lo), .pv (.int .i64 v1.1.Hi)]]), (6, [.c (.box 4 0)]), (5, [.c (.box 3 0)]), (4, [.c (.box 2 0)]), (3, [.c (.box 1 0)]), (2, [.c (.box 0 0)])] (by kernel_rfl) ?_
  refine B rfl rfl (bir_alloc rfl z72 rfl rfl) rfl rfl (.s (.s (.s (.s (.s .z))))) ?_
  refine B rfl rfl (bir_alloc rfl z305 rfl rfl) rfl rfl (.s (.s (.s (.s (.s (.s .z)))))) ?_
  refine S rfl rfl rfl ty72 (by decide) rfl rfl rfl rfl rfl (.all rfl) (.s (.s (.s (.s (.s .z))))) ?_
  refine S rfl rfl rfl ty305 (by decide) rfl rfl rfl rfl rfl (.all rfl) (.s (.s (.s (.s (.s (.s .z)))))) ?_
  refine ops_nil ?_
  refine then_ ?_
  refine seq_ ?_
  refine seq_ ?_
  refine region_ ?_
  refine R tbok 1 [18, 8, 7, 6, 5, 4, 3, 2] [(18, [.agg [.pv (.int .i64 v1.1.Lo), .pv (.int .i64 v1.1.Hi)]]), (8, [.c (.box 6 0)]), (7, [.c (.box 5 0)]), (6, [.c (.box 4 0)]), (5, [.c (.box 3 0)]), (4, [.c (.box 2 0)]), (3, [.c (.box 1 0)]), (2, [.c (.box 0 0)])] (by kernel_rfl) ?_
  obtain ⟨v2, k2, h⟩ := bindE h
  refine C rfl rfl (fl_call rfl Tryz.call106 rfl (by kernel_rfl) (by kernel_rfl) (itv_Empty_meets k2)) rfl ?_
  refine ops_nil ?_
  refine then_ ?_
  refine cond_ (b := v2) rfl (fun k3 => ?_) (fun k3 => ?_)
  · have h := iteT h k3
    refine seq_ ?_
    refine drawn_ mixed ?_
    refine dl (t := 20) 0 [.agg [.pv (.int .i64 v1.1.Lo), .pv (.int .i64 v1.1.Hi)]] rfl ?_
    obtain ⟨v4, k5, h⟩ := bindE h
    refine dl (t := 21) 1 [.agg [.pv (.int .i64 v4.Lo), .pv (.int .i64 v4.Hi)]] rfl ?_
    refine dl (t := 22) 2 [.agg [.pv (.bool v1.2.Overflow), .pv (.bool v1.2.DivZero)]] rfl ?_
    refine d_store (wm [0, 0, 0, 3, 11, 31]) 3 rfl (by kernel_rfl) (by kernel_rfl) (by kernel_rfl) (by kernel_rfl) (by kernel_rfl) (gi0 rfl) (oE tbok [] 1 (by kernel_rfl) (oL [] rfl (by kernel_rfl) (fl_call rfl Tryz.call52 rfl (by kernel_rfl) (by kernel_rfl) (itv_None_meets k5)) (oE tbok [] 1 (by kernel_rfl) trivial))) rfl rfl ty72 rfl rfl rfl rfl rfl rfl (putE 2 (.all rfl) rfl (by decide)) (SetAt.eq (.s (.s .z))) ?_
    refine d_store (wm [0, 0, 0, 3, 11, 31]) 4 rfl (by kernel_rfl) (by kernel_rfl) (by kernel_rfl) (by kernel_rfl) (by kernel_rfl) (gi0 rfl) (oN 1 (by kernel_rfl) (oE tbok [] 1 (by kernel_rfl) (oN 2 (by kernel_rfl) trivial))) rfl rfl ty72 rfl rfl rfl rfl rfl rfl (putE 2 (.all rfl) rfl (by decide)) (SetAt.eq (.s (.s (.s .z)))) ?_
    refine d_store (wm [0, 0, 0, 3, 11, 31]) 5 rfl (by kernel_rfl) (by kernel_rfl) (by kernel_rfl) (by kernel_rfl) (by kernel_rfl) (gi0 rfl) (oN 2 (by kernel_rfl) (oE tbok [] 1 (by kernel_rfl) (oN 2 (by kernel_rfl) trivial))) rfl rfl ty305 rfl rfl rfl rfl rfl rfl (putE 2 (.all rfl) rfl (by decide)) (SetAt.eq (.s (.s (.s (.s .z))))) ?_
    refine d_endS (env2 := [(8, [.c (.box 6 0)]), (7, [.c (.box 5 0)]), (6, [.c (.box 4 0)]), (5, [.c (.box 3 0)]), (4, [.c (.box 2 0)]), (3, [.c (.box 1 0)]), (2, [.c (.box 0 0)])]) (wm [0, 0, 0, 3, 11, 31]) (by kernel_rfl) (by kernel_rfl) (by kernel_rfl) (oN 6 (by kernel_rfl) trivial) (sub_cons rfl (sub_cons rfl (sub_cons rfl (sub_cons rfl (sub_cons rfl (sub_cons rfl (sub_cons rfl sub_nil))))))) wT ?_
    refine then_ ?_
    refine ret_ ?_
    obtain rfl := retE h
    refine tR (rwr (rw_ (.cellA (ys := [.pv (.int .i64 v1.1.Lo), .pv (.int .i64 v1.1.Hi)]) ty72 rfl rfl (by kernel_rfl) (by kernel_rfl) (.cellA (ys := [.pv (.int .i64 v4.Lo), .pv (.int .i64 v4.Hi)]) ty72 rfl rfl (by kernel_rfl) (by kernel_rfl) (.cellA (ys := [.pv (.bool v1.2.Overflow), .pv (.bool v1.2.DivZero)]) ty305 rfl rfl (by kernel_rfl) (by kernel_rfl) .nil))) ?_))
    refine w_none 0 .z ?_
    refine w_none 1 (.s .z) ?_
    refine w_none 2 (.s (.s .z)) ?_
    refine w_none 3 (.s (.s (.s .z))) ?_
    refine w_none 4 (.s (.s (.s (.s .z)))) ?_
    refine w_none 5 (.s (.s (.s (.s (.s .z))))) ?_
    refine w_none 6 (.s (.s (.s (.s (.s (.s .z)))))) ?_
    refine w_cut 0 rfl rfl rfl rfl ?_
    exact wkE (by kernel_rfl) (by kernel_rfl)
  · have h := iteF h k3
    refine skip_ ?_
    refine then_ ?_
    refine seq_ ?_
    refine region_ ?_
    refine R tbok 3 [26, 25, 8, 7, 6, 5, 4] [(26, [.agg (bs (e_num_Num a0))]), (25, [.agg [.pv (.int .i64 a1.R.Kind), .pv (.int .i64 a1.R.Num), .pv (.int .i64 a1.R.Var), .pv (.sl (List.map e_check_Expr a1.R.Kids))]]), (8, [.c (.box 6 0)]), (7, [.c (.box 5 0)]), (6, [.c (.box 4 0)]), (5, [.c (.box 3 0)]), (4, [.c (.box 2 0)])] (by kernel_rfl) ?_
    obtain ⟨v5, k6, h⟩ := bindE h
    refine C rfl rfl (fl_call rfl Tryz.call149 rfl (by kernel_rfl) (by kernel_rfl) (eval_Eval_meets k6)) rfl ?_
    refine R tbok 3 [29, 28, 8, 7, 6, 5, 4] [(29, [.agg [.pv (.bool v5.2.Overflow), .pv (.bool v5.2.DivZero)]]), (28, [.agg [.pv (.int .i64 v5.1.Lo), .pv (.int .i64 v5.1.Hi)]]), (8, [.c (.box 6 0)]), (7, [.c (.box 5 0)]), (6, [.c (.box 4 0)]), (5, [.c (.box 3 0)]), (4, [.c (.box 2 0)])] (by kernel_rfl) ?_
    refine B rfl rfl (bir_alloc rfl z72 rfl rfl) rfl rfl (.s (.s (.s (.s (.s (.s (.s .z))))))) ?_
    refine B rfl rfl (bir_alloc rfl z305 rfl rfl) rfl rfl (.s (.s (.s (.s (.s (.s (.s (.s .z)))))))) ?_
    refine S rfl rfl rfl ty72 (by decide) rfl rfl rfl rfl rfl (.all rfl) (.s (.s (.s (.s (.s (.s (.s .z))))))) ?_
    refine S rfl rfl rfl ty305 (by decide) rfl rfl rfl rfl rfl (.all rfl) (.s (.s (.s (.s (.s (.s (.s (.s .z)))))))) ?_
    refine ops_nil ?_
    refine then_ ?_
    refine seq_ ?_
    refine drawn_ mixed ?_
    refine dl (t := 30) 0 [.agg [.pv (.int .i64 v1.1.Lo), .pv (.int .i64 v1.1.Hi)]] rfl ?_
    refine dl (t := 31) 1 [.agg [.pv (.int .i64 v5.1.Lo), .pv (.int .i64 v5.1.Hi)]] rfl ?_
    refine dl (t := 32) 2 [.agg [.pv (.bool v1.2.Overflow), .pv (.bool v1.2.DivZero)]] rfl ?_
    refine dl (t := 33) 3 [.agg [.pv (.bool v5.2.Overflow), .pv (.bool v5.2.DivZero)]] rfl ?_
    obtain ⟨v7, k8, h⟩ := bindE h
    refine dl (t := 34) 4 [.agg [.pv (.bool v7.Overflow), .pv (.bool v7.DivZero)]] rfl ?_
    refine d_store (wm [0, 0, 0, 0, 12, 29, 63, 127]) 5 rfl (by kernel_rfl) (by kernel_rfl) (by kernel_rfl) (by kernel_rfl) (by kernel_rfl) (gi0 rfl) (oL [] rfl (by kernel_rfl) (fl_call rfl Tryz.call194 rfl (by kernel_rfl) (by kernel_rfl) (eval_either_meets k8)) (oE tbok [] 4 (by kernel_rfl) trivial)) rfl rfl ty72 rfl rfl rfl rfl rfl rfl (putE 2 (.all rfl) rfl (by decide)) (SetAt.eq (.s (.s .z))) ?_
    refine d_store (wm [0, 0, 0, 0, 12, 29, 63, 127]) 6 rfl (by kernel_rfl) (by kernel_rfl) (by kernel_rfl) (by kernel_rfl) (by kernel_rfl) (gi0 rfl) (oN 4 (by kernel_rfl) (oE tbok [] 1 (by kernel_rfl) (oN 1 (by kernel_rfl) trivial))) rfl rfl ty72 rfl rfl rfl rfl rfl rfl (putE 2 (.all rfl) rfl (by decide)) (SetAt.eq (.s (.s (.s .z)))) ?_
    refine d_store (wm [0, 0, 0, 0, 12, 29, 63, 127]) 7 rfl (by kernel_rfl) (by kernel_rfl) (by kernel_rfl) (by kernel_rfl) (by kernel_rfl) (gi0 rfl) (oN 7 (by kernel_rfl) trivial) rfl rfl ty305 rfl rfl rfl rfl rfl rfl (putE 2 (.all rfl) rfl (by decide)) (SetAt.eq (.s (.s (.s (.s .z))))) ?_
    refine d_endS (env2 := [(6, [.c (.box 4 0)]), (5, [.c (.box 3 0)]), (4, [.c (.box 2 0)])]) (wm [0, 0, 0, 0, 12, 29, 63, 127]) (by kernel_rfl) (by kernel_rfl) (by kernel_rfl) (oN 8 (by kernel_rfl) trivial) (sub_cons rfl (sub_cons rfl (sub_cons rfl sub_nil))) wT ?_
    refine then_ ?_
    refine ret_ ?_
    obtain rfl := retE h
    refine rwr (rw_ (.cellA (ys := [.pv (.int .i64 v1.1.Lo), .pv (.int .i64 v1.1.Hi)]) ty72 rfl rfl (by kernel_rfl) (by kernel_rfl) (.cellA (ys := [.pv (.int .i64 v5.1.Lo), .pv (.int .i64 v5.1.Hi)]) ty72 rfl rfl (by kernel_rfl) (by kernel_rfl) (.cellA (ys := [.pv (.bool v7.Overflow), .pv (.bool v7.DivZero)]) ty305 rfl rfl (by kernel_rfl) (by kernel_rfl) .nil))) ?_)
    refine w_none 0 .z ?_
    refine w_none 1 (.s .z) ?_
    refine w_none 2 (.s (.s .z)) ?_
    refine w_none 3 (.s (.s (.s .z))) ?_
    refine w_none 4 (.s (.s (.s (.s .z)))) ?_
    refine w_none 5 (.s (.s (.s (.s (.s .z))))) ?_
    refine w_none 6 (.s (.s (.s (.s (.s (.s .z)))))) ?_
    refine w_none 7 (.s (.s (.s (.s (.s (.s (.s .z))))))) ?_
    refine w_none 8 (.s (.s (.s (.s (.s (.s (.s (.s .z)))))))) ?_
    refine w_cut 0 rfl rfl rfl rfl ?_
    exact wkE (by kernel_rfl) (by kernel_rfl)

theorem itv_unequal_meets {a0 : itv_Itv} {a1 : itv_Itv} {r : itv_Itv} (h : itv_unequal a0 a1 = some r) : MeetsV Tryz.prog GG 225 [.agg [.pv (.int .i64 a0.Lo), .pv (.int .i64 a0.Hi)], .agg [.pv (.int .i64 a1.Lo), .pv (.int .i64 a1.Hi)]] [.agg [.pv (.int .i64 r.Lo), .pv (.int .i64 r.Hi)]] := by
  refine MeetsS.toV (meetsW_of (st0 := []) (N := 31) r_itv_unequal o_itv_unequal r Tryz.func225 rfl rfl rfl (by dsimp only [argEnv]) rfl ?_) rfl
  unfold itv_unequal at h
  refine seq_ ?_
  refine region_ ?_
  refine B rfl rfl (bir_box rfl rfl rfl) rfl rfl .z ?_
  refine B rfl rfl (bir_box rfl rfl rfl) rfl rfl (.s .z) ?_
  refine B rfl rfl (bir_alloc rfl z72 rfl rfl) rfl rfl (.s (.s .z)) ?_
  refine ops_nil ?_
  refine then_ ?_
  refine seq_ ?_
  refine seq_ ?_
  refine region_ ?_
  refine R tbok 5 [9, 4, 3, 2] [(9, [.c (.pv (.bool (a1.Lo != a1.Hi)))]), (4, [.c (.box 2 0)]), (3, [.c (.box 1 0)]), (2, [.c (.box 0 0)])] (by kernel_rfl) ?_
  refine ops_nil ?_
  refine then_ ?_
  refine cond_ (b := (a1.Lo != a1.Hi)) rfl (fun k1 => ?_) (fun k1 => ?_)
  · have h := iteT h k1
    refine seq_ ?_
    refine region_ ?_
    refine R tbok 1 [10, 4, 3, 2] [(10, [.agg [.pv (.int .i64 a0.Lo), .pv (.int .i64 a0.Hi)]]), (4, [.c (.box 2 0)]), (3, [.c (.box 1 0)]), (2, [.c (.box 0 0)])] (by kernel_rfl) ?_
    refine S rfl rfl rfl ty72 (by decide) rfl rfl rfl rfl rfl (.all rfl) (.s (.s .z)) ?_
    refine ops_nil ?_
    refine then_ ?_
    refine ret_ ?_
    obtain rfl := retE h
    refine tR (rwr (rw_ (.cellA (ys := [.pv (.int .i64 a0.Lo), .pv (.int .i64 a0.Hi)]) ty72 rfl rfl (by kernel_rfl) (by kernel_rfl) .nil) ?_))
    refine w_none 0 .z ?_
    refine w_none 1 (.s .z) ?_
    refine w_none 2 (.s (.s .z)) ?_
    refine w_cut 0 rfl rfl rfl rfl ?_
    exact wkE (by kernel_rfl) (by kernel_rfl)
  · have h := iteF h k1
    refine skip_ ?_
    refine then_ ?_
    refine seq_ ?_
    refine jn_ (fun (j1 : Int) => (⟨31, 0, [(2, [.c (.box 0 0)]), (3, [.c (.box 1 0)]), (4, [.c (.box 2 0)])], [some (.box true 72 [.pv (.int .i64 j1), .pv (.int .i64 a0.Hi)]), some (.box true 72 [.pv (.int .i64 a1.Lo), .pv (.int .i64 a1.Hi)]), some (.box true 72 [.pv (.int .i64 0), .pv (.int .i64 0)])]⟩ : Sx)) h wT (fun o h => ?_) (fun j1 h => ?_)
    · refine seq_ ?_
      refine region_ ?_
      refine R tbok 5 [15, 4, 3, 2] [(15, [.c (.pv (.bool (a0.Lo == a1.Lo)))]), (4, [.c (.box 2 0)]), (3, [.c (.box 1 0)]), (2, [.c (.box 0 0)])] (by kernel_rfl) ?_
      refine ops_nil ?_
      refine then_ ?_
      refine cond_ (b := (a0.Lo == a1.Lo)) rfl (fun k2 => ?_) (fun k2 => ?_)
      · have h := iteT h k2
        refine region_ ?_
        refine R tbok 4 [19, 18, 4, 3, 2] [(19, [.c (.box 0 0)]), (18, [.c (.pv (.int .i64 (IntKind.i64.wrap (a0.Lo + 1))))]), (4, [.c (.box 2 0)]), (3, [.c (.box 1 0)]), (2, [.c (.box 0 0)])] (by kernel_rfl) ?_
        refine S rfl rfl rfl ty3 (by decide) rfl rfl rfl rfl rfl (.cons .z .nil) .z ?_
        refine ops_nil ?_
        obtain rfl := retE h
        refine mN ?_
        refine w_sub (env' := [(2, [.c (.box 0 0)]), (3, [.c (.box 1 0)]), (4, [.c (.box 2 0)])]) (sub_cons rfl (sub_cons rfl (sub_cons rfl sub_nil))) ?_
        exact wkE (by kernel_rfl) (by kernel_rfl)
      · have h := iteF h k2
        refine skip_ ?_
        obtain rfl := retE h
        refine mN ?_
        refine w_sub (env' := [(2, [.c (.box 0 0)]), (3, [.c (.box 1 0)]), (4, [.c (.box 2 0)])]) (sub_cons rfl (sub_cons rfl (sub_cons rfl sub_nil))) ?_
        exact wkE (by kernel_rfl) (by kernel_rfl)
    · refine then_ ?_
      refine seq_ ?_
      refine jn_ (fun (j2 : Int) => (⟨31, 0, [(2, [.c (.box 0 0)]), (4, [.c (.box 2 0)])], [some (.box true 72 [.pv (.int .i64 j1), .pv (.int .i64 j2)]), none, some (.box true 72 [.pv (.int .i64 0), .pv (.int .i64 0)])]⟩ : Sx)) h wT (fun o h => ?_) (fun j2 h => ?_)
      · refine seq_ ?_
        refine region_ ?_
        refine R tbok 5 [24, 2, 4] [(24, [.c (.pv (.bool (a0.Hi == a1.Lo)))]), (2, [.c (.box 0 0)]), (4, [.c (.box 2 0)])] (by kernel_rfl) ?_
        refine ops_nil ?_
        refine then_ ?_
        refine cond_ (b := (a0.Hi == a1.Lo)) rfl (fun k3 => ?_) (fun k3 => ?_)
        · have h := iteT h k3
          refine region_ ?_
          refine R tbok 4 [28, 27, 2, 4] [(28, [.c (.box 0 1)]), (27, [.c (.pv (.int .i64 (IntKind.i64.wrap (a0.Hi - 1))))]), (2, [.c (.box 0 0)]), (4, [.c (.box 2 0)])] (by kernel_rfl) ?_
          refine S rfl rfl rfl ty3 (by decide) rfl rfl rfl rfl rfl (.cons (.s .z) .nil) .z ?_
          refine ops_nil ?_
          obtain rfl := retE h
          refine mN ?_
          refine w_sub (env' := [(2, [.c (.box 0 0)]), (4, [.c (.box 2 0)])]) (sub_cons rfl (sub_cons rfl sub_nil)) ?_
          refine w_none 1 (.s .z) ?_
          exact wkE (by kernel_rfl) (by kernel_rfl)
        · have h := iteF h k3
          refine skip_ ?_
          obtain rfl := retE h
          refine mN ?_
          refine w_sub (env' := [(2, [.c (.box 0 0)]), (4, [.c (.box 2 0)])]) (sub_cons rfl (sub_cons rfl sub_nil)) ?_
          refine w_none 1 (.s .z) ?_
          exact wkE (by kernel_rfl) (by kernel_rfl)
      · refine then_ ?_
        refine seq_ ?_
        refine region_ ?_
        refine R tbok 1 [29, 4] [(29, [.agg [.pv (.int .i64 j1), .pv (.int .i64 j2)]]), (4, [.c (.box 2 0)])] (by kernel_rfl) ?_
        obtain ⟨v1, k4, h⟩ := bindE h
        refine C rfl rfl (fl_call rfl Tryz.call109 rfl (by kernel_rfl) (by kernel_rfl) (itv_norm_meets k4)) rfl ?_
        refine S rfl rfl rfl ty72 (by decide) rfl rfl rfl rfl rfl (.all rfl) (.s (.s .z)) ?_
        refine ops_nil ?_
        refine then_ ?_
        refine ret_ ?_
        obtain rfl := retE h
        refine rwr (rw_ (.cellA (ys := [.pv (.int .i64 v1.Lo), .pv (.int .i64 v1.Hi)]) ty72 rfl rfl (by kernel_rfl) (by kernel_rfl) .nil) ?_)
        refine w_none 0 .z ?_
        refine w_none 2 (.s (.s .z)) ?_
        refine w_cut 0 rfl rfl rfl rfl ?_
        exact wkE (by kernel_rfl) (by kernel_rfl)

theorem itv_below_meets {a0 : itv_Itv} {a1 : itv_Itv} {a2 : Int} {r : itv_Itv} (h : itv_below a0 a1 a2 = some r) : MeetsV Tryz.prog GG 226 [.agg [.pv (.int .i64 a0.Lo), .pv (.int .i64 a0.Hi)], .agg [.pv (.int .i64 a1.Lo), .pv (.int .i64 a1.Hi)], .c (.pv (.int .i64 a2))] [.agg [.pv (.int .i64 r.Lo), .pv (.int .i64 r.Hi)]] := by
  refine MeetsS.toV (meetsW_of (st0 := []) (N := 14) r_itv_below o_itv_below r Tryz.func226 rfl rfl rfl (by dsimp only [argEnv]) rfl ?_) rfl
  unfold itv_below at h
  refine seq_ ?_
  refine region_ ?_
  refine B rfl rfl (bir_box rfl rfl rfl) rfl rfl .z ?_
  refine B rfl rfl (bir_box rfl rfl rfl) rfl rfl (.s .z) ?_
  refine B rfl rfl (bir_alloc rfl z72 rfl rfl) rfl rfl (.s (.s .z)) ?_
  refine ops_nil ?_
  refine then_ ?_
  refine seq_ ?_
  refine drawn_ mixed ?_
  refine dl (t := 7) 0 [.agg [.pv (.int .i64 a0.Lo), .pv (.int .i64 a0.Hi)]] rfl ?_
  refine dl (t := 8) 1 [.c (.box 1 1)] rfl ?_
  refine dl (t := 9) 2 [.c (.pv (.int .i64 a1.Hi))] rfl ?_
  refine dl (t := 10) 3 [.c (.pv (.int .i64 a2))] rfl ?_
  refine dl (t := 11) 4 [.c (.pv (.int .i64 (IntKind.i64.wrap (a1.Hi - a2))))] rfl ?_
  obtain ⟨v2, k2, h⟩ := bindE h
  refine dl (t := 12) 5 [.agg [.pv (.int .i64 v2.Lo), .pv (.int .i64 v2.Hi)]] rfl ?_
  obtain ⟨v4, k4, h⟩ := bindE h
  refine dl (t := 13) 6 [.agg [.pv (.int .i64 v4.Lo), .pv (.int .i64 v4.Hi)]] rfl ?_
  refine d_store (wm [0, 0, 2, 0, 14, 30, 63, 127]) 7 rfl (by kernel_rfl) (by kernel_rfl) (by kernel_rfl) (by kernel_rfl) (by kernel_rfl) (gi0 rfl) (oL [] rfl (by kernel_rfl) (fl_call rfl Tryz.call192 rfl (by kernel_rfl) (by kernel_rfl) (itv_Meet_meets k4)) (oL [] rfl (by kernel_rfl) (fl_call rfl Tryz.call62 rfl (by kernel_rfl) (by kernel_rfl) (itv_Of_meets k2)) (oE tbok [] 5 (by kernel_rfl) trivial))) rfl rfl ty72 rfl rfl rfl rfl rfl rfl (putE 2 (.all rfl) rfl (by decide)) (SetAt.eq (.s (.s .z))) ?_
  refine d_endS (env2 := [(6, [.c (.box 2 0)])]) (wm [0, 0, 2, 0, 14, 30, 63, 127]) (by kernel_rfl) (by kernel_rfl) (by kernel_rfl) (oN 8 (by kernel_rfl) trivial) (sub_cons rfl sub_nil) wT ?_
  refine then_ ?_
  refine ret_ ?_
  obtain rfl := retE h
  refine rwr (rw_ (.cellA (ys := [.pv (.int .i64 v4.Lo), .pv (.int .i64 v4.Hi)]) ty72 rfl rfl (by kernel_rfl) (by kernel_rfl) .nil) ?_)
  refine w_none 0 .z ?_
  refine w_none 1 (.s .z) ?_
  refine w_none 2 (.s (.s .z)) ?_
  refine w_cut 0 rfl rfl rfl rfl ?_
  exact wkE (by kernel_rfl) (by kernel_rfl)

theorem itv_above_meets {a0 : itv_Itv} {a1 : itv_Itv} {a2 : Int} {r : itv_Itv} (h : itv_above a0 a1 a2 = some r) : MeetsV Tryz.prog GG 227 [.agg [.pv (.int .i64 a0.Lo), .pv (.int .i64 a0.Hi)], .agg [.pv (.int .i64 a1.Lo), .pv (.int .i64 a1.Hi)], .c (.pv (.int .i64 a2))] [.agg [.pv (.int .i64 r.Lo), .pv (.int .i64 r.Hi)]] := by
  refine MeetsS.toV (meetsW_of (st0 := []) (N := 14) r_itv_above o_itv_above r Tryz.func227 rfl rfl rfl (by dsimp only [argEnv]) rfl ?_) rfl
  unfold itv_above at h
  refine seq_ ?_
  refine region_ ?_
  refine B rfl rfl (bir_box rfl rfl rfl) rfl rfl .z ?_
  refine B rfl rfl (bir_box rfl rfl rfl) rfl rfl (.s .z) ?_
  refine B rfl rfl (bir_alloc rfl z72 rfl rfl) rfl rfl (.s (.s .z)) ?_
  refine ops_nil ?_
  refine then_ ?_
  refine seq_ ?_
  refine drawn_ mixed ?_
  refine dl (t := 7) 0 [.agg [.pv (.int .i64 a0.Lo), .pv (.int .i64 a0.Hi)]] rfl ?_
  refine dl (t := 8) 1 [.c (.box 1 0)] rfl ?_
  refine dl (t := 9) 2 [.c (.pv (.int .i64 a1.Lo))] rfl ?_
  refine dl (t := 10) 3 [.c (.pv (.int .i64 a2))] rfl ?_
  refine dl (t := 11) 4 [.c (.pv (.int .i64 (IntKind.i64.wrap (a1.Lo + a2))))] rfl ?_
  obtain ⟨v2, k2, h⟩ := bindE h
  refine dl (t := 12) 5 [.agg [.pv (.int .i64 v2.Lo), .pv (.int .i64 v2.Hi)]] rfl ?_
  obtain ⟨v4, k4, h⟩ := bindE h
  refine dl (t := 13) 6 [.agg [.pv (.int .i64 v4.Lo), .pv (.int .i64 v4.Hi)]] rfl ?_
  refine d_store (wm [0, 0, 2, 0, 14, 30, 63, 127]) 7 rfl (by kernel_rfl) (by kernel_rfl) (by kernel_rfl) (by kernel_rfl) (by kernel_rfl) (gi0 rfl) (oL [] rfl (by kernel_rfl) (fl_call rfl Tryz.call192 rfl (by kernel_rfl) (by kernel_rfl) (itv_Meet_meets k4)) (oL [] rfl (by kernel_rfl) (fl_call rfl Tryz.call62 rfl (by kernel_rfl) (by kernel_rfl) (itv_Of_meets k2)) (oE tbok [] 5 (by kernel_rfl) trivial))) rfl rfl ty72 rfl rfl rfl rfl rfl rfl (putE 2 (.all rfl) rfl (by decide)) (SetAt.eq (.s (.s .z))) ?_
  refine d_endS (env2 := [(6, [.c (.box 2 0)])]) (wm [0, 0, 2, 0, 14, 30, 63, 127]) (by kernel_rfl) (by kernel_rfl) (by kernel_rfl) (oN 8 (by kernel_rfl) trivial) (sub_cons rfl sub_nil) wT ?_
  refine then_ ?_
  refine ret_ ?_
  obtain rfl := retE h
  refine rwr (rw_ (.cellA (ys := [.pv (.int .i64 v4.Lo), .pv (.int .i64 v4.Hi)]) ty72 rfl rfl (by kernel_rfl) (by kernel_rfl) .nil) ?_)
  refine w_none 0 .z ?_
  refine w_none 1 (.s .z) ?_
  refine w_none 2 (.s (.s .z)) ?_
  refine w_cut 0 rfl rfl rfl rfl ?_
  exact wkE (by kernel_rfl) (by kernel_rfl)

theorem itv_Test_meets {a0 : Int} {a1 : itv_Itv} {a2 : itv_Itv} {r : (itv_Itv × itv_Itv)} (h : itv_Test a0 a1 a2 = some r) : MeetsV Tryz.prog GG 188 [.c (.pv (.int .i64 a0)), .agg [.pv (.int .i64 a1.Lo), .pv (.int .i64 a1.Hi)], .agg [.pv (.int .i64 a2.Lo), .pv (.int .i64 a2.Hi)]] [.agg [.pv (.int .i64 r.1.Lo), .pv (.int .i64 r.1.Hi)], .agg [.pv (.int .i64 r.2.Lo), .pv (.int .i64 r.2.Hi)]] := by
  refine MeetsS.toV (meetsW_of (st0 := []) (N := 73) r_itv_Test o_itv_Test r Tryz.func188 rfl rfl rfl (by dsimp only [argEnv]) rfl ?_) rfl
  unfold itv_Test at h
  refine seq_ ?_
  refine region_ ?_
  refine B rfl rfl (bir_box rfl rfl rfl) rfl rfl .z ?_
  refine B rfl rfl (bir_box rfl rfl rfl) rfl rfl (.s .z) ?_
  refine B rfl rfl (bir_alloc rfl z72 rfl rfl) rfl rfl (.s (.s .z)) ?_
  refine B rfl rfl (bir_alloc rfl z72 rfl rfl) rfl rfl (.s (.s (.s .z))) ?_
  refine ops_nil ?_
  refine then_ ?_
  refine seq_ ?_
  refine drawn_ mixed ?_
  refine dl (t := 9) 0 [.agg [.pv (.int .i64 a1.Lo), .pv (.int .i64 a1.Hi)]] rfl ?_
  obtain ⟨v2, k2, h⟩ := bindE h
  refine dl (t := 10) 1 [.agg [.pv (.int .i64 v2.Lo), .pv (.int .i64 v2.Hi)]] rfl ?_
  obtain ⟨v4, k4, h⟩ := bindE h
  refine dl (t := 11) 2 [.agg [.pv (.int .i64 v4.Lo), .pv (.int .i64 v4.Hi)]] rfl ?_
  refine dl (t := 12) 3 [.agg [.pv (.int .i64 a2.Lo), .pv (.int .i64 a2.Hi)]] rfl ?_
  obtain ⟨v6, k6, h⟩ := bindE h
  refine dl (t := 13) 4 [.agg [.pv (.int .i64 v6.Lo), .pv (.int .i64 v6.Hi)]] rfl ?_
  obtain ⟨v8, k8, h⟩ := bindE h
  refine dl (t := 14) 5 [.agg [.pv (.int .i64 v8.Lo), .pv (.int .i64 v8.Hi)]] rfl ?_
  refine d_store (wm [0, 0, 3, 0, 7, 31, 63, 127]) 6 rfl (by kernel_rfl) (by kernel_rfl) (by kernel_rfl) (by kernel_rfl) (by kernel_rfl) (gi0 rfl) (oL [] rfl (by kernel_rfl) (fl_call rfl Tryz.call192 rfl (by kernel_rfl) (by kernel_rfl) (itv_Meet_meets k8)) (oL [] rfl (by kernel_rfl) (fl_call rfl Tryz.call20 rfl (by kernel_rfl) (by kernel_rfl) (itv_All_meets k6)) (oE tbok [] 1 (by kernel_rfl) (oL [] rfl (by kernel_rfl) (fl_call rfl Tryz.call192 rfl (by kernel_rfl) (by kernel_rfl) (itv_Meet_meets k4)) (oL [] rfl (by kernel_rfl) (fl_call rfl Tryz.call20 rfl (by kernel_rfl) (by kernel_rfl) (itv_All_meets k2)) (oE tbok [] 1 (by kernel_rfl) trivial)))))) rfl rfl ty72 rfl rfl rfl rfl rfl rfl (putE 2 (.all rfl) rfl (by decide)) (SetAt.eq .z) ?_
  refine d_store (wm [0, 0, 3, 0, 7, 31, 63, 127]) 7 rfl (by kernel_rfl) (by kernel_rfl) (by kernel_rfl) (by kernel_rfl) (by kernel_rfl) (gi0 rfl) (oN 7 (by kernel_rfl) trivial) rfl rfl ty72 rfl rfl rfl rfl rfl rfl (putE 2 (.all rfl) rfl (by decide)) (SetAt.eq (.s .z)) ?_
  refine d_endS (env2 := [(7, [.c (.box 3 0)]), (6, [.c (.box 2 0)]), (5, [.c (.box 1 0)]), (4, [.c (.box 0 0)]), (0, [.c (.pv (.int .i64 a0))])]) (wm [0, 0, 3, 0, 7, 31, 63, 127]) (by kernel_rfl) (by kernel_rfl) (by kernel_rfl) (oN 8 (by kernel_rfl) trivial) (sub_cons rfl (sub_cons rfl (sub_cons rfl (sub_cons rfl (sub_cons rfl sub_nil))))) wT ?_
  refine then_ ?_
  refine seq_ ?_
  refine seq_ ?_
  refine jn_ (fun (j1 : Bool) => (⟨73, 0, [(0, [.c (.pv (.int .i64 a0))]), (4, [.c (.box 0 0)]), (5, [.c (.box 1 0)]), (6, [.c (.box 2 0)]), (7, [.c (.box 3 0)]), (20, [.c (.pv (.bool j1))])], [some (.box true 72 [.pv (.int .i64 v4.Lo), .pv (.int .i64 v4.Hi)]), some (.box true 72 [.pv (.int .i64 v8.Lo), .pv (.int .i64 v8.Hi)]), some (.box true 72 [.pv (.int .i64 0), .pv (.int .i64 0)]), some (.box true 72 [.pv (.int .i64 0), .pv (.int .i64 0)])]⟩ : Sx)) h wT (fun o h => ?_) (fun j1 h => ?_)
  · refine region_ ?_
    refine R tbok 1 [15, 7, 6, 5, 4, 0] [(15, [.agg [.pv (.int .i64 v4.Lo), .pv (.int .i64 v4.Hi)]]), (7, [.c (.box 3 0)]), (6, [.c (.box 2 0)]), (5, [.c (.box 1 0)]), (4, [.c (.box 0 0)]), (0, [.c (.pv (.int .i64 a0))])] (by kernel_rfl) ?_
    obtain ⟨v9, k9, h⟩ := bindE h
    refine C rfl rfl (fl_call rfl Tryz.call106 rfl (by kernel_rfl) (by kernel_rfl) (itv_Empty_meets k9)) rfl ?_
    refine R tbok 1 [17, 7, 6, 5, 4, 0] [(17, [.c (.pv (.bool v9))]), (7, [.c (.box 3 0)]), (6, [.c (.box 2 0)]), (5, [.c (.box 1 0)]), (4, [.c (.box 0 0)]), (0, [.c (.pv (.int .i64 a0))])] (by kernel_rfl) ?_
    refine (tf v9).elim (fun k10 => ?_) (fun k10 => ?_)
    · have h := iteT h k10
      refine Ls0 rfl rfl rfl k10 rfl rfl ?_
      refine Ls0 rfl rfl rfl k10 rfl rfl ?_
      refine L rfl rfl (lt_pickT rfl rfl k10 rfl) rfl ?_
      refine ops_nil ?_
      obtain rfl := retE h
      refine mN ?_
      refine w_sub (env' := [(0, [.c (.pv (.int .i64 a0))]), (4, [.c (.box 0 0)]), (5, [.c (.box 1 0)]), (6, [.c (.box 2 0)]), (7, [.c (.box 3 0)]), (20, [.c (.pv (.bool true))])]) (sub_cons rfl (sub_cons rfl (sub_cons rfl (sub_cons rfl (sub_cons rfl (sub_cons rfl sub_nil)))))) ?_
      exact wkE (by kernel_rfl) (by kernel_rfl)
    · have h := iteF h k10
      refine Lg rfl rfl rfl k10 rfl (lt_load_boxA (ys := [.pv (.int .i64 v8.Lo), .pv (.int .i64 v8.Hi)]) rfl ty72 rfl rfl (by kernel_rfl) (by kernel_rfl)) rfl ?_
      obtain ⟨v10, k11, h⟩ := bindE h
      refine Hg rfl rfl rfl k10 rfl rfl (op_fl rfl rfl (fl_call rfl Tryz.call106 rfl (by kernel_rfl) (by kernel_rfl) (itv_Empty_meets k11)) ?_)
      refine L rfl rfl (lt_pickF rfl rfl k10 rfl) rfl ?_
      refine ops_nil ?_
      obtain rfl := retE h
      refine mN ?_
      refine w_sub (env' := [(0, [.c (.pv (.int .i64 a0))]), (4, [.c (.box 0 0)]), (5, [.c (.box 1 0)]), (6, [.c (.box 2 0)]), (7, [.c (.box 3 0)]), (20, [.c (.pv (.bool v10))])]) (sub_cons rfl (sub_cons rfl (sub_cons rfl (sub_cons rfl (sub_cons rfl (sub_cons rfl sub_nil)))))) ?_
      exact wkE (by kernel_rfl) (by kernel_rfl)
  · refine then_ ?_
    refine cond_ (b := j1) rfl (fun k12 => ?_) (fun k12 => ?_)
    · have h := iteT h k12
      refine seq_ ?_
      refine region_ ?_
      obtain ⟨v11, k13, h⟩ := bindE h
      refine C rfl rfl (fl_call rfl Tryz.call52 rfl (by kernel_rfl) (by kernel_rfl) (itv_None_meets k13)) rfl ?_
      obtain ⟨v12, k14, h⟩ := bindE h
      refine C rfl rfl (fl_call rfl Tryz.call52 rfl (by kernel_rfl) (by kernel_rfl) (itv_None_meets k14)) rfl ?_
      refine S rfl rfl rfl ty72 (by decide) rfl rfl rfl rfl rfl (.all rfl) (.s (.s .z)) ?_
      refine S rfl rfl rfl ty72 (by decide) rfl rfl rfl rfl rfl (.all rfl) (.s (.s (.s .z))) ?_
      refine ops_nil ?_
      refine then_ ?_
      refine ret_ ?_
      obtain rfl := retE h
      refine tR (rwr (rw_ (.cellA (ys := [.pv (.int .i64 v11.Lo), .pv (.int .i64 v11.Hi)]) ty72 rfl rfl (by kernel_rfl) (by kernel_rfl) (.cellA (ys := [.pv (.int .i64 v12.Lo), .pv (.int .i64 v12.Hi)]) ty72 rfl rfl (by kernel_rfl) (by kernel_rfl) .nil)) ?_))
      refine w_none 0 .z ?_
      refine w_none 1 (.s .z) ?_
      refine w_none 2 (.s (.s .z)) ?_
      refine w_none 3 (.s (.s (.s .z))) ?_
      refine w_cut 0 rfl rfl rfl rfl ?_
      exact wkE (by kernel_rfl) (by kernel_rfl)
    · have h := iteF h k12
      refine skip_ ?_
      refine then_ ?_
      refine seq_ ?_
      refine seq_ ?_
      refine region_ ?_
      refine R tbok 1 [23, 4, 5, 6, 7] [(23, [.c (.pv (.int .i64 a0))]), (4, [.c (.box 0 0)]), (5, [.c (.box 1 0)]), (6, [.c (.box 2 0)]), (7, [.c (.box 3 0)])] (by kernel_rfl) ?_
      refine ops_nil ?_
      refine then_ ?_
      refine block_ ?_
      refine seq_ ?_
      refine region_ ?_
      refine R tbok 2 [24, 23, 4, 5, 6, 7] [(24, [.c (.pv (.bool (a0 == 1)))]), (23, [.c (.pv (.int .i64 a0))]), (4, [.c (.box 0 0)]), (5, [.c (.box 1 0)]), (6, [.c (.box 2 0)]), (7, [.c (.box 3 0)])] (by kernel_rfl) ?_
      refine ops_nil ?_
      refine then_ ?_
      refine cond_ (b := (a0 == 1)) rfl (fun k15 => ?_) (fun k15 => ?_)
      · have h := iteT h k15
        refine seq_ ?_
        refine region_ ?_
        refine R tbok 2 [27, 26, 6, 7] [(27, [.agg [.pv (.int .i64 v8.Lo), .pv (.int .i64 v8.Hi)]]), (26, [.agg [.pv (.int .i64 v4.Lo), .pv (.int .i64 v4.Hi)]]), (6, [.c (.box 2 0)]), (7, [.c (.box 3 0)])] (by kernel_rfl) ?_
        obtain ⟨v13, k16, h⟩ := bindE h
        refine C rfl rfl (fl_call rfl Tryz.call192 rfl (by kernel_rfl) (by kernel_rfl) (itv_Meet_meets k16)) rfl ?_
        refine B rfl rfl (bir_alloc rfl z72 rfl rfl) rfl rfl (.s (.s (.s (.s .z)))) ?_
        refine S rfl rfl rfl ty72 (by decide) rfl rfl rfl rfl rfl (.all rfl) (.s (.s (.s (.s .z)))) ?_
        refine ops_nil ?_
        refine then_ ?_
        refine seq_ ?_
        refine drawn_ mixed ?_
        refine dl (t := 29) 0 [.agg [.pv (.int .i64 v13.Lo), .pv (.int .i64 v13.Hi)]] rfl ?_
        refine dl (t := 30) 1 [.agg [.pv (.int .i64 v13.Lo), .pv (.int .i64 v13.Hi)]] rfl ?_
        refine d_store (wm [0, 0, 1, 7]) 2 rfl (by kernel_rfl) (by kernel_rfl) (by kernel_rfl) (by kernel_rfl) (by kernel_rfl) (gi0 rfl) (oE tbok [] 2 (by kernel_rfl) trivial) rfl rfl ty72 rfl rfl rfl rfl rfl rfl (putE 2 (.all rfl) rfl (by decide)) (SetAt.eq (.s (.s .z))) ?_
        refine d_store (wm [0, 0, 1, 7]) 3 rfl (by kernel_rfl) (by kernel_rfl) (by kernel_rfl) (by kernel_rfl) (by kernel_rfl) (gi0 rfl) (oN 1 (by kernel_rfl) (oE tbok [] 1 (by kernel_rfl) (oN 1 (by kernel_rfl) trivial))) rfl rfl ty72 rfl rfl rfl rfl rfl rfl (putE 2 (.all rfl) rfl (by decide)) (SetAt.eq (.s (.s (.s .z)))) ?_
        refine d_endS (env2 := [(6, [.c (.box 2 0)]), (7, [.c (.box 3 0)])]) (wm [0, 0, 1, 7]) (by kernel_rfl) (by kernel_rfl) (by kernel_rfl) (oN 4 (by kernel_rfl) trivial) (sub_cons rfl (sub_cons rfl sub_nil)) wT ?_
        refine then_ ?_
        refine ret_ ?_
        obtain rfl := retE h
        refine bR (tR (rwr (rw_ (.cellA (ys := [.pv (.int .i64 v13.Lo), .pv (.int .i64 v13.Hi)]) ty72 rfl rfl (by kernel_rfl) (by kernel_rfl) (.cellA (ys := [.pv (.int .i64 v13.Lo), .pv (.int .i64 v13.Hi)]) ty72 rfl rfl (by kernel_rfl) (by kernel_rfl) .nil)) ?_)))
        refine w_none 0 .z ?_
        refine w_none 1 (.s .z) ?_
        refine w_none 2 (.s (.s .z)) ?_
        refine w_none 3 (.s (.s (.s .z))) ?_
        refine w_none 4 (.s (.s (.s (.s .z)))) ?_
        refine w_cut 0 rfl rfl rfl rfl ?_
        exact wkE (by kernel_rfl) (by kernel_rfl)
      · have h := iteF h k15
        refine seq_ ?_
        refine region_ ?_
        refine R tbok 2 [31, 23, 4, 5, 6, 7] [(31, [.c (.pv (.bool (a0 == 2)))]), (23, [.c (.pv (.int .i64 a0))]), (4, [.c (.box 0 0)]), (5, [.c (.box 1 0)]), (6, [.c (.box 2 0)]), (7, [.c (.box 3 0)])] (by kernel_rfl) ?_
        refine ops_nil ?_
        refine then_ ?_
        refine cond_ (b := (a0 == 2)) rfl (fun k17 => ?_) (fun k17 => ?_)
        · have h := iteT h k17
          refine seq_ ?_
          refine drawn_ mixed ?_
          refine dl (t := 33) 0 [.agg [.pv (.int .i64 v4.Lo), .pv (.int .i64 v4.Hi)]] rfl ?_
          refine dl (t := 34) 1 [.agg [.pv (.int .i64 v8.Lo), .pv (.int .i64 v8.Hi)]] rfl ?_
          obtain ⟨v15, k19, h⟩ := bindE h
          refine dl (t := 35) 2 [.agg [.pv (.int .i64 v15.Lo), .pv (.int .i64 v15.Hi)]] rfl ?_
          refine dl (t := 36) 3 [.agg [.pv (.int .i64 v8.Lo), .pv (.int .i64 v8.Hi)]] rfl ?_
          refine dl (t := 37) 4 [.agg [.pv (.int .i64 v4.Lo), .pv (.int .i64 v4.Hi)]] rfl ?_
          obtain ⟨v17, k21, h⟩ := bindE h
          refine dl (t := 38) 5 [.agg [.pv (.int .i64 v17.Lo), .pv (.int .i64 v17.Hi)]] rfl ?_
          refine d_store (wm [0, 0, 3, 0, 0, 31, 63, 127]) 6 rfl (by kernel_rfl) (by kernel_rfl) (by kernel_rfl) (by kernel_rfl) (by kernel_rfl) (gi0 rfl) (oL [] rfl (by kernel_rfl) (fl_call rfl Tryz.call225 rfl (by kernel_rfl) (by kernel_rfl) (itv_unequal_meets k21)) (oE tbok [] 2 (by kernel_rfl) (oL [] rfl (by kernel_rfl) (fl_call rfl Tryz.call225 rfl (by kernel_rfl) (by kernel_rfl) (itv_unequal_meets k19)) (oE tbok [] 2 (by kernel_rfl) trivial)))) rfl rfl ty72 rfl rfl rfl rfl rfl rfl (putE 2 (.all rfl) rfl (by decide)) (SetAt.eq (.s (.s .z))) ?_
          refine d_store (wm [0, 0, 3, 0, 0, 31, 63, 127]) 7 rfl (by kernel_rfl) (by kernel_rfl) (by kernel_rfl) (by kernel_rfl) (by kernel_rfl) (gi0 rfl) (oN 7 (by kernel_rfl) trivial) rfl rfl ty72 rfl rfl rfl rfl rfl rfl (putE 2 (.all rfl) rfl (by decide)) (SetAt.eq (.s (.s (.s .z)))) ?_
          refine d_endS (env2 := [(6, [.c (.box 2 0)]), (7, [.c (.box 3 0)])]) (wm [0, 0, 3, 0, 0, 31, 63, 127]) (by kernel_rfl) (by kernel_rfl) (by kernel_rfl) (oN 8 (by kernel_rfl) trivial) (sub_cons rfl (sub_cons rfl sub_nil)) wT ?_
          refine then_ ?_
          refine ret_ ?_
          obtain rfl := retE h
          refine bR (tR (rwr (rw_ (.cellA (ys := [.pv (.int .i64 v15.Lo), .pv (.int .i64 v15.Hi)]) ty72 rfl rfl (by kernel_rfl) (by kernel_rfl) (.cellA (ys := [.pv (.int .i64 v17.Lo), .pv (.int .i64 v17.Hi)]) ty72 rfl rfl (by kernel_rfl) (by kernel_rfl) .nil)) ?_)))
          refine w_none 0 .z ?_
          refine w_none 1 (.s .z) ?_
          refine w_none 2 (.s (.s .z)) ?_
          refine w_none 3 (.s (.s (.s .z))) ?_
          refine w_cut 0 rfl rfl rfl rfl ?_
          exact wkE (by kernel_rfl) (by kernel_rfl)
        · have h := iteF h k17
          refine seq_ ?_
          refine region_ ?_
          refine R tbok 2 [39, 23, 4, 5, 6, 7] [(39, [.c (.pv (.bool (a0 == 3)))]), (23, [.c (.pv (.int .i64 a0))]), (4, [.c (.box 0 0)]), (5, [.c (.box 1 0)]), (6, [.c (.box 2 0)]), (7, [.c (.box 3 0)])] (by kernel_rfl) ?_
          refine ops_nil ?_
          refine then_ ?_
          refine cond_ (b := (a0 == 3)) rfl (fun k22 => ?_) (fun k22 => ?_)
          · have h := iteT h k22
            refine seq_ ?_
            refine drawn_ mixed ?_
            refine dl (t := 41) 0 [.agg [.pv (.int .i64 v4.Lo), .pv (.int .i64 v4.Hi)]] rfl ?_
            refine dl (t := 42) 1 [.agg [.pv (.int .i64 v8.Lo), .pv (.int .i64 v8.Hi)]] rfl ?_
            obtain ⟨v19, k24, h⟩ := bindE h
            refine dl (t := 43) 2 [.agg [.pv (.int .i64 v19.Lo), .pv (.int .i64 v19.Hi)]] rfl ?_
            refine dl (t := 44) 3 [.agg [.pv (.int .i64 v8.Lo), .pv (.int .i64 v8.Hi)]] rfl ?_
            refine dl (t := 45) 4 [.agg [.pv (.int .i64 v4.Lo), .pv (.int .i64 v4.Hi)]] rfl ?_
            obtain ⟨v21, k26, h⟩ := bindE h
            refine dl (t := 46) 5 [.agg [.pv (.int .i64 v21.Lo), .pv (.int .i64 v21.Hi)]] rfl ?_
            refine d_store (wm [0, 0, 3, 0, 0, 31, 63, 127]) 6 rfl (by kernel_rfl) (by kernel_rfl) (by kernel_rfl) (by kernel_rfl) (by kernel_rfl) (gi0 rfl) (oL [] rfl (by kernel_rfl) (fl_call rfl Tryz.call227 rfl (by kernel_rfl) (by kernel_rfl) (itv_above_meets k26)) (oE tbok [] 2 (by kernel_rfl) (oL [] rfl (by kernel_rfl) (fl_call rfl Tryz.call226 rfl (by kernel_rfl) (by kernel_rfl) (itv_below_meets k24)) (oE tbok [] 2 (by kernel_rfl) trivial)))) rfl rfl ty72 rfl rfl rfl rfl rfl rfl (putE 2 (.all rfl) rfl (by decide)) (SetAt.eq (.s (.s .z))) ?_
            refine d_store (wm [0, 0, 3, 0, 0, 31, 63, 127]) 7 rfl (by kernel_rfl) (by kernel_rfl) (by kernel_rfl) (by kernel_rfl) (by kernel_rfl) (gi0 rfl) (oN 7 (by kernel_rfl) trivial) rfl rfl ty72 rfl rfl rfl rfl rfl rfl (putE 2 (.all rfl) rfl (by decide)) (SetAt.eq (.s (.s (.s .z)))) ?_
            refine d_endS (env2 := [(6, [.c (.box 2 0)]), (7, [.c (.box 3 0)])]) (wm [0, 0, 3, 0, 0, 31, 63, 127]) (by kernel_rfl) (by kernel_rfl) (by kernel_rfl) (oN 8 (by kernel_rfl) trivial) (sub_cons rfl (sub_cons rfl sub_nil)) wT ?_
            refine then_ ?_
            refine ret_ ?_
            obtain rfl := retE h
            refine bR (tR (rwr (rw_ (.cellA (ys := [.pv (.int .i64 v19.Lo), .pv (.int .i64 v19.Hi)]) ty72 rfl rfl (by kernel_rfl) (by kernel_rfl) (.cellA (ys := [.pv (.int .i64 v21.Lo), .pv (.int .i64 v21.Hi)]) ty72 rfl rfl (by kernel_rfl) (by kernel_rfl) .nil)) ?_)))
            refine w_none 0 .z ?_
            refine w_none 1 (.s .z) ?_
            refine w_none 2 (.s (.s .z)) ?_
            refine w_none 3 (.s (.s (.s .z))) ?_
            refine w_cut 0 rfl rfl rfl rfl ?_
            exact wkE (by kernel_rfl) (by kernel_rfl)
          · have h := iteF h k22
            refine seq_ ?_
            refine region_ ?_
            refine R tbok 2 [47, 23, 4, 5, 6, 7] [(47, [.c (.pv (.bool (a0 == 4)))]), (23, [.c (.pv (.int .i64 a0))]), (4, [.c (.box 0 0)]), (5, [.c (.box 1 0)]), (6, [.c (.box 2 0)]), (7, [.c (.box 3 0)])] (by kernel_rfl) ?_
            refine ops_nil ?_
            refine then_ ?_
            refine cond_ (b := (a0 == 4)) rfl (fun k27 => ?_) (fun k27 => ?_)
            · have h := iteT h k27
              refine seq_ ?_
              refine drawn_ mixed ?_
              refine dl (t := 49) 0 [.agg [.pv (.int .i64 v4.Lo), .pv (.int .i64 v4.Hi)]] rfl ?_
              refine dl (t := 50) 1 [.agg [.pv (.int .i64 v8.Lo), .pv (.int .i64 v8.Hi)]] rfl ?_
              obtain ⟨v23, k29, h⟩ := bindE h
              refine dl (t := 51) 2 [.agg [.pv (.int .i64 v23.Lo), .pv (.int .i64 v23.Hi)]] rfl ?_
              refine dl (t := 52) 3 [.agg [.pv (.int .i64 v8.Lo), .pv (.int .i64 v8.Hi)]] rfl ?_
              refine dl (t := 53) 4 [.agg [.pv (.int .i64 v4.Lo), .pv (.int .i64 v4.Hi)]] rfl ?_
              obtain ⟨v25, k31, h⟩ := bindE h
              refine dl (t := 54) 5 [.agg [.pv (.int .i64 v25.Lo), .pv (.int .i64 v25.Hi)]] rfl ?_
              refine d_store (wm [0, 0, 3, 0, 0, 31, 63, 127]) 6 rfl (by kernel_rfl) (by kernel_rfl) (by kernel_rfl) (by kernel_rfl) (by kernel_rfl) (gi0 rfl) (oL [] rfl (by kernel_rfl) (fl_call rfl Tryz.call227 rfl (by kernel_rfl) (by kernel_rfl) (itv_above_meets k31)) (oE tbok [] 2 (by kernel_rfl) (oL [] rfl (by kernel_rfl) (fl_call rfl Tryz.call226 rfl (by kernel_rfl) (by kernel_rfl) (itv_below_meets k29)) (oE tbok [] 2 (by kernel_rfl) trivial)))) rfl rfl ty72 rfl rfl rfl rfl rfl rfl (putE 2 (.all rfl) rfl (by decide)) (SetAt.eq (.s (.s .z))) ?_
              refine d_store (wm [0, 0, 3, 0, 0, 31, 63, 127]) 7 rfl (by kernel_rfl) (by kernel_rfl) (by kernel_rfl) (by kernel_rfl) (by kernel_rfl) (gi0 rfl) (oN 7 (by kernel_rfl) trivial) rfl rfl ty72 rfl rfl rfl rfl rfl rfl (putE 2 (.all rfl) rfl (by decide)) (SetAt.eq (.s (.s (.s .z)))) ?_
              refine d_endS (env2 := [(6, [.c (.box 2 0)]), (7, [.c (.box 3 0)])]) (wm [0, 0, 3, 0, 0, 31, 63, 127]) (by kernel_rfl) (by kernel_rfl) (by kernel_rfl) (oN 8 (by kernel_rfl) trivial) (sub_cons rfl (sub_cons rfl sub_nil)) wT ?_
              refine then_ ?_
              refine ret_ ?_
              obtain rfl := retE h
              refine bR (tR (rwr (rw_ (.cellA (ys := [.pv (.int .i64 v23.Lo), .pv (.int .i64 v23.Hi)]) ty72 rfl rfl (by kernel_rfl) (by kernel_rfl) (.cellA (ys := [.pv (.int .i64 v25.Lo), .pv (.int .i64 v25.Hi)]) ty72 rfl rfl (by kernel_rfl) (by kernel_rfl) .nil)) ?_)))
              refine w_none 0 .z ?_
              refine w_none 1 (.s .z) ?_
              refine w_none 2 (.s (.s .z)) ?_
              refine w_none 3 (.s (.s (.s .z))) ?_
              refine w_cut 0 rfl rfl rfl rfl ?_
              exact wkE (by kernel_rfl) (by kernel_rfl)
            · have h := iteF h k27
              refine seq_ ?_
              refine region_ ?_
              refine R tbok 2 [55, 23, 4, 5, 6, 7] [(55, [.c (.pv (.bool (a0 == 5)))]), (23, [.c (.pv (.int .i64 a0))]), (4, [.c (.box 0 0)]), (5, [.c (.box 1 0)]), (6, [.c (.box 2 0)]), (7, [.c (.box 3 0)])] (by kernel_rfl) ?_
              refine ops_nil ?_
              refine then_ ?_
              refine cond_ (b := (a0 == 5)) rfl (fun k32 => ?_) (fun k32 => ?_)
              · have h := iteT h k32
                refine seq_ ?_
                refine drawn_ mixed ?_
                refine dl (t := 57) 0 [.agg [.pv (.int .i64 v4.Lo), .pv (.int .i64 v4.Hi)]] rfl ?_
                refine dl (t := 58) 1 [.agg [.pv (.int .i64 v8.Lo), .pv (.int .i64 v8.Hi)]] rfl ?_
                obtain ⟨v27, k34, h⟩ := bindE h
                refine dl (t := 59) 2 [.agg [.pv (.int .i64 v27.Lo), .pv (.int .i64 v27.Hi)]] rfl ?_
                refine dl (t := 60) 3 [.agg [.pv (.int .i64 v8.Lo), .pv (.int .i64 v8.Hi)]] rfl ?_
                refine dl (t := 61) 4 [.agg [.pv (.int .i64 v4.Lo), .pv (.int .i64 v4.Hi)]] rfl ?_
                obtain ⟨v29, k36, h⟩ := bindE h
                refine dl (t := 62) 5 [.agg [.pv (.int .i64 v29.Lo), .pv (.int .i64 v29.Hi)]] rfl ?_
                refine d_store (wm [0, 0, 3, 0, 0, 31, 63, 127]) 6 rfl (by kernel_rfl) (by kernel_rfl) (by kernel_rfl) (by kernel_rfl) (by kernel_rfl) (gi0 rfl) (oL [] rfl (by kernel_rfl) (fl_call rfl Tryz.call226 rfl (by kernel_rfl) (by kernel_rfl) (itv_below_meets k36)) (oE tbok [] 2 (by kernel_rfl) (oL [] rfl (by kernel_rfl) (fl_call rfl Tryz.call227 rfl (by kernel_rfl) (by kernel_rfl) (itv_above_meets k34)) (oE tbok [] 2 (by kernel_rfl) trivial)))) rfl rfl ty72 rfl rfl rfl rfl rfl rfl (putE 2 (.all rfl) rfl (by decide)) (SetAt.eq (.s (.s .z))) ?_
                refine d_store (wm [0, 0, 3, 0, 0, 31, 63, 127]) 7 rfl (by kernel_rfl) (by kernel_rfl) (by kernel_rfl) (by kernel_rfl) (by kernel_rfl) (gi0 rfl) (oN 7 (by kernel_rfl) trivial) rfl rfl ty72 rfl rfl rfl rfl rfl rfl (putE 2 (.all rfl) rfl (by decide)) (SetAt.eq (.s (.s (.s .z)))) ?_
                refine d_endS (env2 := [(6, [.c (.box 2 0)]), (7, [.c (.box 3 0)])]) (wm [0, 0, 3, 0, 0, 31, 63, 127]) (by kernel_rfl) (by kernel_rfl) (by kernel_rfl) (oN 8 (by kernel_rfl) trivial) (sub_cons rfl (sub_cons rfl sub_nil)) wT ?_
                refine then_ ?_
                refine ret_ ?_
                obtain rfl := retE h
                refine bR (tR (rwr (rw_ (.cellA (ys := [.pv (.int .i64 v27.Lo), .pv (.int .i64 v27.Hi)]) ty72 rfl rfl (by kernel_rfl) (by kernel_rfl) (.cellA (ys := [.pv (.int .i64 v29.Lo), .pv (.int .i64 v29.Hi)]) ty72 rfl rfl (by kernel_rfl) (by kernel_rfl) .nil)) ?_)))
                refine w_none 0 .z ?_
                refine w_none 1 (.s .z) ?_
                refine w_none 2 (.s (.s .z)) ?_
                refine w_none 3 (.s (.s (.s .z))) ?_
                refine w_cut 0 rfl rfl rfl rfl ?_
                exact wkE (by kernel_rfl) (by kernel_rfl)
              · have h := iteF h k32
                refine seq_ ?_
                refine region_ ?_
                refine R tbok 2 [63, 4, 5, 6, 7] [(63, [.c (.pv (.bool (a0 == 6)))]), (4, [.c (.box 0 0)]), (5, [.c (.box 1 0)]), (6, [.c (.box 2 0)]), (7, [.c (.box 3 0)])] (by kernel_rfl) ?_
                refine ops_nil ?_
                refine then_ ?_
                refine cond_ (b := (a0 == 6)) rfl (fun k37 => ?_) (fun k37 => ?_)
                · have h := iteT h k37
                  refine seq_ ?_
                  refine drawn_ mixed ?_
                  refine dl (t := 65) 0 [.agg [.pv (.int .i64 v4.Lo), .pv (.int .i64 v4.Hi)]] rfl ?_
                  refine dl (t := 66) 1 [.agg [.pv (.int .i64 v8.Lo), .pv (.int .i64 v8.Hi)]] rfl ?_
                  obtain ⟨v31, k39, h⟩ := bindE h
                  refine dl (t := 67) 2 [.agg [.pv (.int .i64 v31.Lo), .pv (.int .i64 v31.Hi)]] rfl ?_
                  refine dl (t := 68) 3 [.agg [.pv (.int .i64 v8.Lo), .pv (.int .i64 v8.Hi)]] rfl ?_
                  refine dl (t := 69) 4 [.agg [.pv (.int .i64 v4.Lo), .pv (.int .i64 v4.Hi)]] rfl ?_
                  obtain ⟨v33, k41, h⟩ := bindE h
                  refine dl (t := 70) 5 [.agg [.pv (.int .i64 v33.Lo), .pv (.int .i64 v33.Hi)]] rfl ?_
                  refine d_store (wm [0, 0, 3, 0, 0, 31, 63, 127]) 6 rfl (by kernel_rfl) (by kernel_rfl) (by kernel_rfl) (by kernel_rfl) (by kernel_rfl) (gi0 rfl) (oL [] rfl (by kernel_rfl) (fl_call rfl Tryz.call226 rfl (by kernel_rfl) (by kernel_rfl) (itv_below_meets k41)) (oE tbok [] 2 (by kernel_rfl) (oL [] rfl (by kernel_rfl) (fl_call rfl Tryz.call227 rfl (by kernel_rfl) (by kernel_rfl) (itv_above_meets k39)) (oE tbok [] 2 (by kernel_rfl) trivial)))) rfl rfl ty72 rfl rfl rfl rfl rfl rfl (putE 2 (.all rfl) rfl (by decide)) (SetAt.eq (.s (.s .z))) ?_
                  refine d_store (wm [0, 0, 3, 0, 0, 31, 63, 127]) 7 rfl (by kernel_rfl) (by kernel_rfl) (by kernel_rfl) (by kernel_rfl) (by kernel_rfl) (gi0 rfl) (oN 7 (by kernel_rfl) trivial) rfl rfl ty72 rfl rfl rfl rfl rfl rfl (putE 2 (.all rfl) rfl (by decide)) (SetAt.eq (.s (.s (.s .z)))) ?_
                  refine d_endS (env2 := [(6, [.c (.box 2 0)]), (7, [.c (.box 3 0)])]) (wm [0, 0, 3, 0, 0, 31, 63, 127]) (by kernel_rfl) (by kernel_rfl) (by kernel_rfl) (oN 8 (by kernel_rfl) trivial) (sub_cons rfl (sub_cons rfl sub_nil)) wT ?_
                  refine then_ ?_
                  refine ret_ ?_
                  obtain rfl := retE h
                  refine bR (tR (rwr (rw_ (.cellA (ys := [.pv (.int .i64 v31.Lo), .pv (.int .i64 v31.Hi)]) ty72 rfl rfl (by kernel_rfl) (by kernel_rfl) (.cellA (ys := [.pv (.int .i64 v33.Lo), .pv (.int .i64 v33.Hi)]) ty72 rfl rfl (by kernel_rfl) (by kernel_rfl) .nil)) ?_)))
                  refine w_none 0 .z ?_
                  refine w_none 1 (.s .z) ?_
                  refine w_none 2 (.s (.s .z)) ?_
                  refine w_none 3 (.s (.s (.s .z))) ?_
                  refine w_cut 0 rfl rfl rfl rfl ?_
                  exact wkE (by kernel_rfl) (by kernel_rfl)
                · have h := iteF h k37
                  refine skip_ ?_
                  refine bN ?_
                  refine then_ ?_
                  refine seq_ ?_
                  refine region_ ?_
                  obtain ⟨v34, k42, h⟩ := bindE h
                  refine C rfl rfl (fl_call rfl Tryz.call52 rfl (by kernel_rfl) (by kernel_rfl) (itv_None_meets k42)) rfl ?_
                  obtain ⟨v35, k43, h⟩ := bindE h
                  refine C rfl rfl (fl_call rfl Tryz.call52 rfl (by kernel_rfl) (by kernel_rfl) (itv_None_meets k43)) rfl ?_
                  refine S rfl rfl rfl ty72 (by decide) rfl rfl rfl rfl rfl (.all rfl) (.s (.s .z)) ?_
                  refine S rfl rfl rfl ty72 (by decide) rfl rfl rfl rfl rfl (.all rfl) (.s (.s (.s .z))) ?_
                  refine ops_nil ?_
                  refine then_ ?_
                  refine ret_ ?_
                  obtain rfl := retE h
                  refine rwr (rw_ (.cellA (ys := [.pv (.int .i64 v34.Lo), .pv (.int .i64 v34.Hi)]) ty72 rfl rfl (by kernel_rfl) (by kernel_rfl) (.cellA (ys := [.pv (.int .i64 v35.Lo), .pv (.int .i64 v35.Hi)]) ty72 rfl rfl (by kernel_rfl) (by kernel_rfl) .nil)) ?_)
                  refine w_none 0 .z ?_
                  refine w_none 1 (.s .z) ?_
                  refine w_none 2 (.s (.s .z)) ?_
                  refine w_none 3 (.s (.s (.s .z))) ?_
                  refine w_cut 0 rfl rfl rfl rfl ?_
                  exact wkE (by kernel_rfl) (by kernel_rfl)

theorem eval_moved_meets {a0 : itv_Itv} {a1 : Int} {r : itv_Itv} (h : eval_moved a0 a1 = some r) : MeetsV Tryz.prog GG 229 [.agg [.pv (.int .i64 a0.Lo), .pv (.int .i64 a0.Hi)], .c (.pv (.int .i64 a1))] [.agg [.pv (.int .i64 r.Lo), .pv (.int .i64 r.Hi)]] := by
  refine MeetsS.toV (meetsW_of (st0 := []) (N := 14) r_eval_moved o_eval_moved r Tryz.func229 rfl rfl rfl (by dsimp only [argEnv]) rfl ?_) rfl
  unfold eval_moved at h
  refine seq_ ?_
  refine region_ ?_
  refine B rfl rfl (bir_box rfl rfl rfl) rfl rfl .z ?_
  refine B rfl rfl (bir_alloc rfl z72 rfl rfl) rfl rfl (.s .z) ?_
  refine ops_nil ?_
  refine then_ ?_
  refine seq_ ?_
  refine region_ ?_
  refine R tbok 8 [12, 8, 4] [(12, [.c (.pv (.int .i64 (IntKind.i64.wrap (a0.Hi - a1))))]), (8, [.c (.pv (.int .i64 (IntKind.i64.wrap (a0.Lo - a1))))]), (4, [.c (.box 1 0)])] (by kernel_rfl) ?_
  refine L rfl rfl (lt_build (cs := [.pv (.int .i64 (IntKind.i64.wrap (a0.Lo - a1))), .pv (.int .i64 (IntKind.i64.wrap (a0.Hi - a1)))]) rfl st72 rfl (by kernel_rfl)) rfl ?_
  refine S rfl rfl rfl ty72 (by decide) rfl rfl rfl rfl rfl (.all rfl) (.s .z) ?_
  refine ops_nil ?_
  refine then_ ?_
  refine ret_ ?_
  obtain rfl := retE h
  refine rwr (rw_ (.cellA (ys := [.pv (.int .i64 (IntKind.i64.wrap (a0.Lo - a1))), .pv (.int .i64 (IntKind.i64.wrap (a0.Hi - a1)))]) ty72 rfl rfl (by kernel_rfl) (by kernel_rfl) .nil) ?_)
  refine w_none 0 .z ?_
  refine w_none 1 (.s .z) ?_
  refine w_cut 0 rfl rfl rfl rfl ?_
  exact wkE (by kernel_rfl) (by kernel_rfl)

theorem eval_held_meets {a0 : num_Num} {a1 : eval_form} {a2 : itv_Itv} {r : num_Num} (h : eval_held a0 a1 a2 = some r) : MeetsV Tryz.prog GG 190 [.agg (bs (e_num_Num a0)), .agg [.pv (.int .i64 a1.f_v), .pv (.int .i64 a1.f_by)], .agg [.pv (.int .i64 a2.Lo), .pv (.int .i64 a2.Hi)]] [.agg (bs (e_num_Num r))] := by
  refine MeetsS.toV (meetsW_of (st0 := []) (N := 19) r_eval_held o_eval_held r Tryz.func190 rfl rfl rfl (by dsimp only [argEnv]) rfl ?_) rfl
  unfold eval_held at h
  refine seq_ ?_
  refine region_ ?_
  refine B rfl rfl (bir_box rfl rfl rfl) rfl rfl .z ?_
  refine B rfl rfl (bir_box rfl rfl rfl) rfl rfl (.s .z) ?_
  refine B rfl rfl (bir_box rfl rfl rfl) rfl rfl (.s (.s .z)) ?_
  refine B rfl rfl (bir_alloc rfl z64 rfl rfl) rfl rfl (.s (.s (.s .z))) ?_
  refine ops_nil ?_
  refine then_ ?_
  refine seq_ ?_
  refine seq_ ?_
  refine region_ ?_
  refine R tbok 3 [9, 6, 5, 4, 3] [(9, [.c (.pv (.bool (a1.f_v == (-1))))]), (6, [.c (.box 3 0)]), (5, [.c (.box 2 0)]), (4, [.c (.box 1 0)]), (3, [.c (.box 0 0)])] (by kernel_rfl) ?_
  refine ops_nil ?_
  refine then_ ?_
  refine cond_ (b := (a1.f_v == (-1))) rfl (fun k1 => ?_) (fun k1 => ?_)
  · have h := iteT h k1
    refine seq_ ?_
    refine region_ ?_
    refine R tbok 1 [10, 6, 5, 4, 3] [(10, [.agg (bs (e_num_Num a0))]), (6, [.c (.box 3 0)]), (5, [.c (.box 2 0)]), (4, [.c (.box 1 0)]), (3, [.c (.box 0 0)])] (by kernel_rfl) ?_
    refine S rfl rfl rfl ty64 (by decide) rfl rfl rfl rfl rfl (.all rfl) (.s (.s (.s .z))) ?_
    refine ops_nil ?_
    refine then_ ?_
    refine ret_ ?_
    obtain rfl := retE h
    refine tR (rwr (rw_ (.cellA (ys := (bs (e_num_Num a0))) ty64 rfl rfl (by kernel_rfl) (by kernel_rfl) .nil) ?_))
    refine w_none 0 .z ?_
    refine w_none 1 (.s .z) ?_
    refine w_none 2 (.s (.s .z)) ?_
    refine w_none 3 (.s (.s (.s .z))) ?_
    refine w_cut 0 rfl rfl rfl rfl ?_
    exact wkE (by kernel_rfl) (by kernel_rfl)
  · have h := iteF h k1
    refine skip_ ?_
    refine then_ ?_
    refine seq_ ?_
    refine drawn_ mixed ?_
    refine dl (t := 11) 0 [.agg (bs (e_num_Num a0))] rfl ?_
    refine dl (t := 12) 1 [.c (.box 1 0)] rfl ?_
    refine dl (t := 13) 2 [.c (.pv (.int .i64 a1.f_v))] rfl ?_
    refine dl (t := 14) 3 [.agg [.pv (.int .i64 a2.Lo), .pv (.int .i64 a2.Hi)]] rfl ?_
    refine dl (t := 15) 4 [.c (.box 1 1)] rfl ?_
    refine dl (t := 16) 5 [.c (.pv (.int .i64 a1.f_by))] rfl ?_
    obtain ⟨v2, k3, h⟩ := bindE h
    refine dl (t := 17) 6 [.agg [.pv (.int .i64 v2.Lo), .pv (.int .i64 v2.Hi)]] rfl ?_
    obtain ⟨v4, k5, h⟩ := bindE h
    refine dl (t := 18) 7 [.agg (bs (e_num_Num v4))] rfl ?_
    refine d_store (wm [0, 0, 2, 0, 0, 16, 56, 127, 255]) 8 rfl (by kernel_rfl) (by kernel_rfl) (by kernel_rfl) (by kernel_rfl) (by kernel_rfl) (gi0 rfl) (oL [] rfl (by kernel_rfl) (fl_call rfl Tryz.call185 rfl (by kernel_rfl) (by kernel_rfl) (num_Meet_meets k5)) (oL [] rfl (by kernel_rfl) (fl_call rfl Tryz.call229 rfl (by kernel_rfl) (by kernel_rfl) (eval_moved_meets k3)) (oE tbok [] 6 (by kernel_rfl) trivial))) rfl rfl ty64 rfl rfl rfl rfl rfl rfl (putE 53 (.all rfl) rfl (by decide)) (SetAt.eq (.s (.s (.s .z)))) ?_
    refine d_endS (env2 := [(6, [.c (.box 3 0)])]) (wm [0, 0, 2, 0, 0, 16, 56, 127, 255]) (by kernel_rfl) (by kernel_rfl) (by kernel_rfl) (oN 9 (by kernel_rfl) trivial) (sub_cons rfl sub_nil) wT ?_
    refine then_ ?_
    refine ret_ ?_
    obtain rfl := retE h
    refine rwr (rw_ (.cellA (ys := (bs (e_num_Num v4))) ty64 rfl rfl (by kernel_rfl) (by kernel_rfl) .nil) ?_)
    refine w_none 0 .z ?_
    refine w_none 1 (.s .z) ?_
    refine w_none 2 (.s (.s .z)) ?_
    refine w_none 3 (.s (.s (.s .z))) ?_
    refine w_cut 0 rfl rfl rfl rfl ?_
    exact wkE (by kernel_rfl) (by kernel_rfl)

theorem num_Bound_meets {a0 : num_Num} {a1 : Int} {a2 : Int} {a3 : Int} {r : num_Num} (h : num_Bound a0 a1 a2 a3 = some r) : MeetsV Tryz.prog GG 240 [.agg (bs (e_num_Num a0)), .c (.pv (.int .i64 a1)), .c (.pv (.int .i64 a2)), .c (.pv (.int .i64 a3))] [.agg (bs (e_num_Num r))] := by
  refine MeetsS.toV (meetsW_of (st0 := []) (N := 16) r_num_Bound o_num_Bound r Tryz.func240 rfl rfl rfl (by dsimp only [argEnv]) rfl ?_) rfl
  unfold num_Bound at h
  refine seq_ ?_
  refine region_ ?_
  refine B rfl rfl (bir_box rfl rfl rfl) rfl rfl .z ?_
  refine B rfl rfl (bir_alloc rfl z64 rfl rfl) rfl rfl (.s .z) ?_
  refine ops_nil ?_
  refine then_ ?_
  refine seq_ ?_
  refine region_ ?_
  refine R tbok 5 [13, 12, 11, 10, 8] [(13, [.c (.pv (.int .i64 a3))]), (12, [.c (.pv (.int .i64 a2))]), (11, [.c (.pv (.int .i64 a1))]), (10, [.agg (bs (e_zone_Zone a0.Z))]), (8, [.c (.box 1 0)])] (by kernel_rfl) ?_
  obtain ⟨v1, k1, h⟩ := bindE h
  refine C rfl rfl (fl_call rfl Tryz.call140 rfl (by kernel_rfl) (by kernel_rfl) (zone_Bound_meets k1)) rfl ?_
  obtain ⟨v2, k2, h⟩ := bindE h
  refine C rfl rfl (fl_call rfl Tryz.call49 rfl (by kernel_rfl) (by kernel_rfl) (num_of_meets k2)) rfl ?_
  refine S rfl rfl rfl ty64 (by decide) rfl rfl rfl rfl rfl (.all rfl) (.s .z) ?_
  refine ops_nil ?_
  refine then_ ?_
  refine ret_ ?_
  obtain rfl := retE h
  refine rwr (rw_ (.cellA (ys := (bs (e_num_Num v2))) ty64 rfl rfl (by kernel_rfl) (by kernel_rfl) .nil) ?_)
  refine w_none 0 .z ?_
  refine w_none 1 (.s .z) ?_
  refine w_cut 0 rfl rfl rfl rfl ?_
  exact wkE (by kernel_rfl) (by kernel_rfl)

theorem eval_below_meets {a0 : num_Num} {a1 : eval_form} {a2 : eval_form} {a3 : Int} {r : num_Num} (h : eval_below a0 a1 a2 a3 = some r) : MeetsV Tryz.prog GG 230 [.agg (bs (e_num_Num a0)), .agg [.pv (.int .i64 a1.f_v), .pv (.int .i64 a1.f_by)], .agg [.pv (.int .i64 a2.f_v), .pv (.int .i64 a2.f_by)], .c (.pv (.int .i64 a3))] [.agg (bs (e_num_Num r))] := by
  refine MeetsS.toV (meetsW_of (st0 := []) (N := 28) r_eval_below o_eval_below r Tryz.func230 rfl rfl rfl (by dsimp only [argEnv]) rfl ?_) rfl
  unfold eval_below at h
  refine seq_ ?_
  refine region_ ?_
  refine B rfl rfl (bir_box rfl rfl rfl) rfl rfl .z ?_
  refine B rfl rfl (bir_box rfl rfl rfl) rfl rfl (.s .z) ?_
  refine B rfl rfl (bir_box rfl rfl rfl) rfl rfl (.s (.s .z)) ?_
  refine B rfl rfl (bir_alloc rfl z64 rfl rfl) rfl rfl (.s (.s (.s .z))) ?_
  refine ops_nil ?_
  refine then_ ?_
  refine seq_ ?_
  refine seq_ ?_
  refine region_ ?_
  refine R tbok 5 [13, 8, 6, 5, 4, 3] [(13, [.c (.pv (.bool (a1.f_v == a2.f_v)))]), (8, [.c (.box 3 0)]), (6, [.c (.box 2 0)]), (5, [.c (.box 1 0)]), (4, [.c (.box 0 0)]), (3, [.c (.pv (.int .i64 a3))])] (by kernel_rfl) ?_
  refine ops_nil ?_
  refine then_ ?_
  refine cond_ (b := (a1.f_v == a2.f_v)) rfl (fun k1 => ?_) (fun k1 => ?_)
  · have h := iteT h k1
    refine seq_ ?_
    refine region_ ?_
    refine R tbok 1 [14, 8, 6, 5, 4, 3] [(14, [.agg (bs (e_num_Num a0))]), (8, [.c (.box 3 0)]), (6, [.c (.box 2 0)]), (5, [.c (.box 1 0)]), (4, [.c (.box 0 0)]), (3, [.c (.pv (.int .i64 a3))])] (by kernel_rfl) ?_
    refine S rfl rfl rfl ty64 (by decide) rfl rfl rfl rfl rfl (.all rfl) (.s (.s (.s .z))) ?_
    refine ops_nil ?_
    refine then_ ?_
    refine ret_ ?_
    obtain rfl := retE h
    refine tR (rwr (rw_ (.cellA (ys := (bs (e_num_Num a0))) ty64 rfl rfl (by kernel_rfl) (by kernel_rfl) .nil) ?_))
    refine w_none 0 .z ?_
    refine w_none 1 (.s .z) ?_
    refine w_none 2 (.s (.s .z)) ?_
    refine w_none 3 (.s (.s (.s .z))) ?_
    refine w_cut 0 rfl rfl rfl rfl ?_
    exact wkE (by kernel_rfl) (by kernel_rfl)
  · have h := iteF h k1
    refine skip_ ?_
    refine then_ ?_
    refine seq_ ?_
    refine region_ ?_
    refine R tbok 12 [26, 19, 17, 15, 8] [(26, [.c (.pv (.int .i64 (IntKind.i64.wrap ((IntKind.i64.wrap (a2.f_by - a1.f_by)) - a3))))]), (19, [.c (.pv (.int .i64 a2.f_v))]), (17, [.c (.pv (.int .i64 a1.f_v))]), (15, [.agg (bs (e_num_Num a0))]), (8, [.c (.box 3 0)])] (by kernel_rfl) ?_
    obtain ⟨v1, k2, h⟩ := bindE h
    refine C rfl rfl (fl_call rfl Tryz.call240 rfl (by kernel_rfl) (by kernel_rfl) (num_Bound_meets k2)) rfl ?_
    refine S rfl rfl rfl ty64 (by decide) rfl rfl rfl rfl rfl (.all rfl) (.s (.s (.s .z))) ?_
    refine ops_nil ?_
    refine then_ ?_
    refine ret_ ?_
    obtain rfl := retE h
    refine rwr (rw_ (.cellA (ys := (bs (e_num_Num v1))) ty64 rfl rfl (by kernel_rfl) (by kernel_rfl) .nil) ?_)
    refine w_none 0 .z ?_
    refine w_none 1 (.s .z) ?_
    refine w_none 2 (.s (.s .z)) ?_
    refine w_none 3 (.s (.s (.s .z))) ?_
    refine w_cut 0 rfl rfl rfl rfl ?_
    exact wkE (by kernel_rfl) (by kernel_rfl)

theorem eval_compared_meets {a0 : num_Num} {a1 : Int} {a2 : eval_form} {a3 : eval_form} {r : num_Num} (h : eval_compared a0 a1 a2 a3 = some r) : MeetsV Tryz.prog GG 191 [.agg (bs (e_num_Num a0)), .c (.pv (.int .i64 a1)), .agg [.pv (.int .i64 a2.f_v), .pv (.int .i64 a2.f_by)], .agg [.pv (.int .i64 a3.f_v), .pv (.int .i64 a3.f_by)]] [.agg (bs (e_num_Num r))] := by
  refine MeetsS.toV (meetsW_of (st0 := []) (N := 44) r_eval_compared o_eval_compared r Tryz.func191 rfl rfl rfl (by dsimp only [argEnv]) rfl ?_) rfl
  unfold eval_compared at h
  refine seq_ ?_
  refine region_ ?_
  refine B rfl rfl (bir_box rfl rfl rfl) rfl rfl .z ?_
  refine B rfl rfl (bir_box rfl rfl rfl) rfl rfl (.s .z) ?_
  refine B rfl rfl (bir_box rfl rfl rfl) rfl rfl (.s (.s .z)) ?_
  refine B rfl rfl (bir_alloc rfl z64 rfl rfl) rfl rfl (.s (.s (.s .z))) ?_
  refine ops_nil ?_
  refine then_ ?_
  refine seq_ ?_
  refine seq_ ?_
  refine region_ ?_
  refine R tbok 1 [9, 8, 7, 6, 4] [(9, [.c (.pv (.int .i64 a1))]), (8, [.c (.box 3 0)]), (7, [.c (.box 2 0)]), (6, [.c (.box 1 0)]), (4, [.c (.box 0 0)])] (by kernel_rfl) ?_
  refine ops_nil ?_
  refine then_ ?_
  refine block_ ?_
  refine seq_ ?_
  refine region_ ?_
  refine R tbok 2 [10, 9, 8, 7, 6, 4] [(10, [.c (.pv (.bool (a1 == 1)))]), (9, [.c (.pv (.int .i64 a1))]), (8, [.c (.box 3 0)]), (7, [.c (.box 2 0)]), (6, [.c (.box 1 0)]), (4, [.c (.box 0 0)])] (by kernel_rfl) ?_
  refine ops_nil ?_
  refine then_ ?_
  refine cond_ (b := (a1 == 1)) rfl (fun k1 => ?_) (fun k1 => ?_)
  · have h := iteT h k1
    refine seq_ ?_
    refine drawn_ mixed ?_
    refine dl (t := 12) 0 [.agg (bs (e_num_Num a0))] rfl ?_
    refine dl (t := 13) 1 [.agg [.pv (.int .i64 a2.f_v), .pv (.int .i64 a2.f_by)]] rfl ?_
    refine dl (t := 14) 2 [.agg [.pv (.int .i64 a3.f_v), .pv (.int .i64 a3.f_by)]] rfl ?_
    obtain ⟨v2, k3, h⟩ := bindE h
    refine dl (t := 15) 3 [.agg (bs (e_num_Num v2))] rfl ?_
    refine dl (t := 16) 4 [.agg [.pv (.int .i64 a3.f_v), .pv (.int .i64 a3.f_by)]] rfl ?_
    refine dl (t := 17) 5 [.agg [.pv (.int .i64 a2.f_v), .pv (.int .i64 a2.f_by)]] rfl ?_
    obtain ⟨v4, k5, h⟩ := bindE h
    refine dl (t := 18) 6 [.agg (bs (e_num_Num v4))] rfl ?_
    refine d_store (wm [0, 0, 0, 7, 0, 0, 63, 127]) 7 rfl (by kernel_rfl) (by kernel_rfl) (by kernel_rfl) (by kernel_rfl) (by kernel_rfl) (gi0 rfl) (oL [] rfl (by kernel_rfl) (fl_call rfl Tryz.call230 rfl (by kernel_rfl) (by kernel_rfl) (eval_below_meets k5)) (oE tbok [] 2 (by kernel_rfl) (oL [] rfl (by kernel_rfl) (fl_call rfl Tryz.call230 rfl (by kernel_rfl) (by kernel_rfl) (eval_below_meets k3)) (oE tbok [] 3 (by kernel_rfl) trivial)))) rfl rfl ty64 rfl rfl rfl rfl rfl rfl (putE 53 (.all rfl) rfl (by decide)) (SetAt.eq (.s (.s (.s .z)))) ?_
    refine d_endS (env2 := [(8, [.c (.box 3 0)]), (4, [.c (.box 0 0)])]) (wm [0, 0, 0, 7, 0, 0, 63, 127]) (by kernel_rfl) (by kernel_rfl) (by kernel_rfl) (oN 8 (by kernel_rfl) trivial) (sub_cons rfl (sub_cons rfl sub_nil)) wT ?_
    refine then_ ?_
    refine ret_ ?_
    obtain rfl := retE h
    refine bR (tR (rwr (rw_ (.cellA (ys := (bs (e_num_Num v4))) ty64 rfl rfl (by kernel_rfl) (by kernel_rfl) .nil) ?_)))
    refine w_none 0 .z ?_
    refine w_none 1 (.s .z) ?_
    refine w_none 2 (.s (.s .z)) ?_
    refine w_none 3 (.s (.s (.s .z))) ?_
    refine w_cut 0 rfl rfl rfl rfl ?_
    exact wkE (by kernel_rfl) (by kernel_rfl)
  · have h := iteF h k1
    refine seq_ ?_
    refine region_ ?_
    refine R tbok 2 [19, 9, 8, 7, 6, 4] [(19, [.c (.pv (.bool (a1 == 3)))]), (9, [.c (.pv (.int .i64 a1))]), (8, [.c (.box 3 0)]), (7, [.c (.box 2 0)]), (6, [.c (.box 1 0)]), (4, [.c (.box 0 0)])] (by kernel_rfl) ?_
    refine ops_nil ?_
    refine then_ ?_
    refine cond_ (b := (a1 == 3)) rfl (fun k6 => ?_) (fun k6 => ?_)
    · have h := iteT h k6
      refine seq_ ?_
      refine region_ ?_
      refine R tbok 3 [23, 22, 21, 8, 4] [(23, [.agg [.pv (.int .i64 a3.f_v), .pv (.int .i64 a3.f_by)]]), (22, [.agg [.pv (.int .i64 a2.f_v), .pv (.int .i64 a2.f_by)]]), (21, [.agg (bs (e_num_Num a0))]), (8, [.c (.box 3 0)]), (4, [.c (.box 0 0)])] (by kernel_rfl) ?_
      obtain ⟨v5, k7, h⟩ := bindE h
      refine C rfl rfl (fl_call rfl Tryz.call230 rfl (by kernel_rfl) (by kernel_rfl) (eval_below_meets k7)) rfl ?_
      refine S rfl rfl rfl ty64 (by decide) rfl rfl rfl rfl rfl (.all rfl) (.s (.s (.s .z))) ?_
      refine ops_nil ?_
      refine then_ ?_
      refine ret_ ?_
      obtain rfl := retE h
      refine bR (tR (rwr (rw_ (.cellA (ys := (bs (e_num_Num v5))) ty64 rfl rfl (by kernel_rfl) (by kernel_rfl) .nil) ?_)))
      refine w_none 0 .z ?_
      refine w_none 1 (.s .z) ?_
      refine w_none 2 (.s (.s .z)) ?_
      refine w_none 3 (.s (.s (.s .z))) ?_
      refine w_cut 0 rfl rfl rfl rfl ?_
      exact wkE (by kernel_rfl) (by kernel_rfl)
    · have h := iteF h k6
      refine seq_ ?_
      refine region_ ?_
      refine R tbok 2 [25, 9, 8, 7, 6, 4] [(25, [.c (.pv (.bool (a1 == 4)))]), (9, [.c (.pv (.int .i64 a1))]), (8, [.c (.box 3 0)]), (7, [.c (.box 2 0)]), (6, [.c (.box 1 0)]), (4, [.c (.box 0 0)])] (by kernel_rfl) ?_
      refine ops_nil ?_
      refine then_ ?_
      refine cond_ (b := (a1 == 4)) rfl (fun k8 => ?_) (fun k8 => ?_)
      · have h := iteT h k8
        refine seq_ ?_
        refine region_ ?_
        refine R tbok 3 [29, 28, 27, 8, 4] [(29, [.agg [.pv (.int .i64 a3.f_v), .pv (.int .i64 a3.f_by)]]), (28, [.agg [.pv (.int .i64 a2.f_v), .pv (.int .i64 a2.f_by)]]), (27, [.agg (bs (e_num_Num a0))]), (8, [.c (.box 3 0)]), (4, [.c (.box 0 0)])] (by kernel_rfl) ?_
        obtain ⟨v6, k9, h⟩ := bindE h
        refine C rfl rfl (fl_call rfl Tryz.call230 rfl (by kernel_rfl) (by kernel_rfl) (eval_below_meets k9)) rfl ?_
        refine S rfl rfl rfl ty64 (by decide) rfl rfl rfl rfl rfl (.all rfl) (.s (.s (.s .z))) ?_
        refine ops_nil ?_
        refine then_ ?_
        refine ret_ ?_
        obtain rfl := retE h
        refine bR (tR (rwr (rw_ (.cellA (ys := (bs (e_num_Num v6))) ty64 rfl rfl (by kernel_rfl) (by kernel_rfl) .nil) ?_)))
        refine w_none 0 .z ?_
        refine w_none 1 (.s .z) ?_
        refine w_none 2 (.s (.s .z)) ?_
        refine w_none 3 (.s (.s (.s .z))) ?_
        refine w_cut 0 rfl rfl rfl rfl ?_
        exact wkE (by kernel_rfl) (by kernel_rfl)
      · have h := iteF h k8
        refine seq_ ?_
        refine region_ ?_
        refine R tbok 2 [31, 9, 8, 7, 6, 4] [(31, [.c (.pv (.bool (a1 == 5)))]), (9, [.c (.pv (.int .i64 a1))]), (8, [.c (.box 3 0)]), (7, [.c (.box 2 0)]), (6, [.c (.box 1 0)]), (4, [.c (.box 0 0)])] (by kernel_rfl) ?_
        refine ops_nil ?_
        refine then_ ?_
        refine cond_ (b := (a1 == 5)) rfl (fun k10 => ?_) (fun k10 => ?_)
        · have h := iteT h k10
          refine seq_ ?_
          refine region_ ?_
          refine R tbok 3 [35, 34, 33, 8, 4] [(35, [.agg [.pv (.int .i64 a2.f_v), .pv (.int .i64 a2.f_by)]]), (34, [.agg [.pv (.int .i64 a3.f_v), .pv (.int .i64 a3.f_by)]]), (33, [.agg (bs (e_num_Num a0))]), (8, [.c (.box 3 0)]), (4, [.c (.box 0 0)])] (by kernel_rfl) ?_
          obtain ⟨v7, k11, h⟩ := bindE h
          refine C rfl rfl (fl_call rfl Tryz.call230 rfl (by kernel_rfl) (by kernel_rfl) (eval_below_meets k11)) rfl ?_
          refine S rfl rfl rfl ty64 (by decide) rfl rfl rfl rfl rfl (.all rfl) (.s (.s (.s .z))) ?_
          refine ops_nil ?_
          refine then_ ?_
          refine ret_ ?_
          obtain rfl := retE h
          refine bR (tR (rwr (rw_ (.cellA (ys := (bs (e_num_Num v7))) ty64 rfl rfl (by kernel_rfl) (by kernel_rfl) .nil) ?_)))
          refine w_none 0 .z ?_
          refine w_none 1 (.s .z) ?_
          refine w_none 2 (.s (.s .z)) ?_
          refine w_none 3 (.s (.s (.s .z))) ?_
          refine w_cut 0 rfl rfl rfl rfl ?_
          exact wkE (by kernel_rfl) (by kernel_rfl)
        · have h := iteF h k10
          refine seq_ ?_
          refine region_ ?_
          refine R tbok 2 [37, 8, 7, 6, 4] [(37, [.c (.pv (.bool (a1 == 6)))]), (8, [.c (.box 3 0)]), (7, [.c (.box 2 0)]), (6, [.c (.box 1 0)]), (4, [.c (.box 0 0)])] (by kernel_rfl) ?_
          refine ops_nil ?_
          refine then_ ?_
          refine cond_ (b := (a1 == 6)) rfl (fun k12 => ?_) (fun k12 => ?_)
          · have h := iteT h k12
            refine seq_ ?_
            refine region_ ?_
            refine R tbok 3 [41, 40, 39, 8, 4] [(41, [.agg [.pv (.int .i64 a2.f_v), .pv (.int .i64 a2.f_by)]]), (40, [.agg [.pv (.int .i64 a3.f_v), .pv (.int .i64 a3.f_by)]]), (39, [.agg (bs (e_num_Num a0))]), (8, [.c (.box 3 0)]), (4, [.c (.box 0 0)])] (by kernel_rfl) ?_
            obtain ⟨v8, k13, h⟩ := bindE h
            refine C rfl rfl (fl_call rfl Tryz.call230 rfl (by kernel_rfl) (by kernel_rfl) (eval_below_meets k13)) rfl ?_
            refine S rfl rfl rfl ty64 (by decide) rfl rfl rfl rfl rfl (.all rfl) (.s (.s (.s .z))) ?_
            refine ops_nil ?_
            refine then_ ?_
            refine ret_ ?_
            obtain rfl := retE h
            refine bR (tR (rwr (rw_ (.cellA (ys := (bs (e_num_Num v8))) ty64 rfl rfl (by kernel_rfl) (by kernel_rfl) .nil) ?_)))
            refine w_none 0 .z ?_
            refine w_none 1 (.s .z) ?_
            refine w_none 2 (.s (.s .z)) ?_
            refine w_none 3 (.s (.s (.s .z))) ?_
            refine w_cut 0 rfl rfl rfl rfl ?_
            exact wkE (by kernel_rfl) (by kernel_rfl)
          · have h := iteF h k12
            refine skip_ ?_
            refine bN ?_
            refine then_ ?_
            refine seq_ ?_
            refine region_ ?_
            refine R tbok 1 [43, 8] [(43, [.agg (bs (e_num_Num a0))]), (8, [.c (.box 3 0)])] (by kernel_rfl) ?_
            refine S rfl rfl rfl ty64 (by decide) rfl rfl rfl rfl rfl (.all rfl) (.s (.s (.s .z))) ?_
            refine ops_nil ?_
            refine then_ ?_
            refine ret_ ?_
            obtain rfl := retE h
            refine rwr (rw_ (.cellA (ys := (bs (e_num_Num a0))) ty64 rfl rfl (by kernel_rfl) (by kernel_rfl) .nil) ?_)
            refine w_none 0 .z ?_
            refine w_none 1 (.s .z) ?_
            refine w_none 2 (.s (.s .z)) ?_
            refine w_none 3 (.s (.s (.s .z))) ?_
            refine w_cut 0 rfl rfl rfl rfl ?_
            exact wkE (by kernel_rfl) (by kernel_rfl)

theorem eval_Assume_meets {a0 : num_Num} {a1 : check_Cond} {r : (num_Num × itv_Errs)} (h : eval_Assume a0 a1 = some r) : MeetsV Tryz.prog GG 145 [.agg (bs (e_num_Num a0)), .agg (bs (e_check_Cond a1))] [.agg (bs (e_num_Num r.1)), .agg [.pv (.bool r.2.Overflow), .pv (.bool r.2.DivZero)]] := by
  refine MeetsS.toV (meetsW_of (st0 := []) (N := 73) r_eval_Assume o_eval_Assume r Tryz.func145 rfl rfl rfl (by dsimp only [argEnv]) rfl ?_) rfl
  unfold eval_Assume at h
  refine seq_ ?_
  refine region_ ?_
  refine B rfl rfl (bir_box rfl rfl rfl) rfl rfl .z ?_
  refine B rfl rfl (bir_box rfl rfl rfl) rfl rfl (.s .z) ?_
  refine B rfl rfl (bir_alloc rfl z64 rfl rfl) rfl rfl (.s (.s .z)) ?_
  refine B rfl rfl (bir_alloc rfl z305 rfl rfl) rfl rfl (.s (.s (.s .z))) ?_
  refine ops_nil ?_
  refine then_ ?_
  refine seq_ ?_
  refine region_ ?_
  refine R tbok 2 [15, 14, 5, 4, 3, 2] [(15, [.agg (bs (e_check_Cond a1))]), (14, [.agg (bs (e_num_Num a0))]), (5, [.c (.box 3 0)]), (4, [.c (.box 2 0)]), (3, [.c (.box 1 0)]), (2, [.c (.box 0 0)])] (by kernel_rfl) ?_
  obtain ⟨v1, k1, h⟩ := bindE h
  refine C rfl rfl (fl_call rfl Tryz.call187 rfl (by kernel_rfl) (by kernel_rfl) (eval_sides_meets k1)) rfl ?_
  refine R tbok 4 [19, 18, 17, 5, 4, 3, 2] [(19, [.agg [.pv (.bool v1.2.2.Overflow), .pv (.bool v1.2.2.DivZero)]]), (18, [.agg [.pv (.int .i64 v1.2.1.Lo), .pv (.int .i64 v1.2.1.Hi)]]), (17, [.agg [.pv (.int .i64 v1.1.Lo), .pv (.int .i64 v1.1.Hi)]]), (5, [.c (.box 3 0)]), (4, [.c (.box 2 0)]), (3, [.c (.box 1 0)]), (2, [.c (.box 0 0)])] (by kernel_rfl) ?_
  refine B rfl rfl (bir_alloc rfl z72 rfl rfl) rfl rfl (.s (.s (.s (.s .z)))) ?_
  refine B rfl rfl (bir_alloc rfl z72 rfl rfl) rfl rfl (.s (.s (.s (.s (.s .z))))) ?_
  refine B rfl rfl (bir_alloc rfl z305 rfl rfl) rfl rfl (.s (.s (.s (.s (.s (.s .z)))))) ?_
  refine S rfl rfl rfl ty72 (by decide) rfl rfl rfl rfl rfl (.all rfl) (.s (.s (.s (.s .z)))) ?_
  refine S rfl rfl rfl ty72 (by decide) rfl rfl rfl rfl rfl (.all rfl) (.s (.s (.s (.s (.s .z))))) ?_
  refine S rfl rfl rfl ty305 (by decide) rfl rfl rfl rfl rfl (.all rfl) (.s (.s (.s (.s (.s (.s .z)))))) ?_
  refine ops_nil ?_
  refine then_ ?_
  refine seq_ ?_
  refine region_ ?_
  refine R tbok 4 [24, 23, 22, 8, 7, 6, 5, 4, 3, 2] [(24, [.agg [.pv (.int .i64 v1.2.1.Lo), .pv (.int .i64 v1.2.1.Hi)]]), (23, [.agg [.pv (.int .i64 v1.1.Lo), .pv (.int .i64 v1.1.Hi)]]), (22, [.c (.pv (.int .i64 a1.Op))]), (8, [.c (.box 6 0)]), (7, [.c (.box 5 0)]), (6, [.c (.box 4 0)]), (5, [.c (.box 3 0)]), (4, [.c (.box 2 0)]), (3, [.c (.box 1 0)]), (2, [.c (.box 0 0)])] (by kernel_rfl) ?_
  obtain ⟨v2, k2, h⟩ := bindE h
  refine C rfl rfl (fl_call rfl Tryz.call188 rfl (by kernel_rfl) (by kernel_rfl) (itv_Test_meets k2)) rfl ?_
  refine R tbok 3 [27, 26, 8, 7, 6, 5, 4, 3, 2] [(27, [.agg [.pv (.int .i64 v2.2.Lo), .pv (.int .i64 v2.2.Hi)]]), (26, [.agg [.pv (.int .i64 v2.1.Lo), .pv (.int .i64 v2.1.Hi)]]), (8, [.c (.box 6 0)]), (7, [.c (.box 5 0)]), (6, [.c (.box 4 0)]), (5, [.c (.box 3 0)]), (4, [.c (.box 2 0)]), (3, [.c (.box 1 0)]), (2, [.c (.box 0 0)])] (by kernel_rfl) ?_
  refine S rfl rfl rfl ty72 (by decide) rfl rfl rfl rfl rfl (.all rfl) (.s (.s (.s (.s .z)))) ?_
  refine S rfl rfl rfl ty72 (by decide) rfl rfl rfl rfl rfl (.all rfl) (.s (.s (.s (.s (.s .z))))) ?_
  refine ops_nil ?_
  refine then_ ?_
  refine seq_ ?_
  refine seq_ ?_
  refine jn_ (fun (j1 : Bool) => (⟨73, 0, [(2, [.c (.box 0 0)]), (3, [.c (.box 1 0)]), (4, [.c (.box 2 0)]), (5, [.c (.box 3 0)]), (6, [.c (.box 4 0)]), (7, [.c (.box 5 0)]), (8, [.c (.box 6 0)]), (33, [.c (.pv (.bool j1))])], [some (.box true 64 (bs (e_num_Num a0))), some (.box true 52 (bs (e_check_Cond a1))), some (.box true 64 ([.pv (.bool false), .emp, .pv (.int .i64 0), .pv (.bool false)] ++ bs (e_T60 (arr (arr 0 []) [(arr 0 [0, 0, 0, 0, 0, 0, 0]), (arr 0 [0, 0, 0, 0, 0, 0, 0]), (arr 0 [0, 0, 0, 0, 0, 0, 0]), (arr 0 [0, 0, 0, 0, 0, 0, 0]), (arr 0 [0, 0, 0, 0, 0, 0, 0]), (arr 0 [0, 0, 0, 0, 0, 0, 0]), (arr 0 [0, 0, 0, 0, 0, 0, 0])])))), some (.box true 305 [.pv (.bool false), .pv (.bool false)]), some (.box true 72 [.pv (.int .i64 v2.1.Lo), .pv (.int .i64 v2.1.Hi)]), some (.box true 72 [.pv (.int .i64 v2.2.Lo), .pv (.int .i64 v2.2.Hi)]), some (.box true 305 [.pv (.bool v1.2.2.Overflow), .pv (.bool v1.2.2.DivZero)])]⟩ : Sx)) h wT (fun o h => ?_) (fun j1 h => ?_)
  · refine region_ ?_
    refine R tbok 1 [28, 8, 7, 6, 5, 4, 3, 2] [(28, [.agg [.pv (.int .i64 v2.1.Lo), .pv (.int .i64 v2.1.Hi)]]), (8, [.c (.box 6 0)]), (7, [.c (.box 5 0)]), (6, [.c (.box 4 0)]), (5, [.c (.box 3 0)]), (4, [.c (.box 2 0)]), (3, [.c (.box 1 0)]), (2, [.c (.box 0 0)])] (by kernel_rfl) ?_
    obtain ⟨v3, k3, h⟩ := bindE h
    refine C rfl rfl (fl_call rfl Tryz.call106 rfl (by kernel_rfl) (by kernel_rfl) (itv_Empty_meets k3)) rfl ?_
    refine R tbok 1 [30, 8, 7, 6, 5, 4, 3, 2] [(30, [.c (.pv (.bool v3))]), (8, [.c (.box 6 0)]), (7, [.c (.box 5 0)]), (6, [.c (.box 4 0)]), (5, [.c (.box 3 0)]), (4, [.c (.box 2 0)]), (3, [.c (.box 1 0)]), (2, [.c (.box 0 0)])] (by kernel_rfl) ?_
    refine (tf v3).elim (fun k4 => ?_) (fun k4 => ?_)
    · have h := iteT h k4
      refine Ls0 rfl rfl rfl k4 rfl rfl ?_
      refine Ls0 rfl rfl rfl k4 rfl rfl ?_
      refine L rfl rfl (lt_pickT rfl rfl k4 rfl) rfl ?_
      refine ops_nil ?_
      obtain rfl := retE h
      refine mN ?_
      refine w_sub (env' := [(2, [.c (.box 0 0)]), (3, [.c (.box 1 0)]), (4, [.c (.box 2 0)]), (5, [.c (.box 3 0)]), (6, [.c (.box 4 0)]), (7, [.c (.box 5 0)]), (8, [.c (.box 6 0)]), (33, [.c (.pv (.bool true))])]) (sub_cons rfl (sub_cons rfl (sub_cons rfl (sub_cons rfl (sub_cons rfl (sub_cons rfl (sub_cons rfl (sub_cons rfl sub_nil)))))))) ?_
      exact wkE (by kernel_rfl) (by kernel_rfl)
    · have h := iteF h k4
      refine Lg rfl rfl rfl k4 rfl (lt_load_boxA (ys := [.pv (.int .i64 v2.2.Lo), .pv (.int .i64 v2.2.Hi)]) rfl ty72 rfl rfl (by kernel_rfl) (by kernel_rfl)) rfl ?_
      obtain ⟨v4, k5, h⟩ := bindE h
      refine Hg rfl rfl rfl k4 rfl rfl (op_fl rfl rfl (fl_call rfl Tryz.call106 rfl (by kernel_rfl) (by kernel_rfl) (itv_Empty_meets k5)) ?_)
      refine L rfl rfl (lt_pickF rfl rfl k4 rfl) rfl ?_
      refine ops_nil ?_
      obtain rfl := retE h
      refine mN ?_
      refine w_sub (env' := [(2, [.c (.box 0 0)]), (3, [.c (.box 1 0)]), (4, [.c (.box 2 0)]), (5, [.c (.box 3 0)]), (6, [.c (.box 4 0)]), (7, [.c (.box 5 0)]), (8, [.c (.box 6 0)]), (33, [.c (.pv (.bool v4))])]) (sub_cons rfl (sub_cons rfl (sub_cons rfl (sub_cons rfl (sub_cons rfl (sub_cons rfl (sub_cons rfl (sub_cons rfl sub_nil)))))))) ?_
      exact wkE (by kernel_rfl) (by kernel_rfl)
  · refine then_ ?_
    refine cond_ (b := j1) rfl (fun k6 => ?_) (fun k6 => ?_)
    · have h := iteT h k6
      refine seq_ ?_
      refine drawn_ mixed ?_
      refine dl (t := 34) 0 [.c (.box 0 1)] rfl ?_
      refine dl (t := 35) 1 [.c (.pv (.sl (List.map e_itv_Itv a0.I)))] rfl ?_
      refine dl (t := 36) 2 [.c (.pv (.int .i64 (a0.I.length : Int)))] rfl ?_
      obtain ⟨v6, k8, h⟩ := bindE h
      refine dl (t := 37) 3 [.agg (bs (e_num_Num v6))] rfl ?_
      refine dl (t := 38) 4 [.agg [.pv (.bool v1.2.2.Overflow), .pv (.bool v1.2.2.DivZero)]] rfl ?_
      refine d_store (wm [0, 1, 3, 7, 0, 15, 63]) 5 rfl (by kernel_rfl) (by kernel_rfl) (by kernel_rfl) (by kernel_rfl) (by kernel_rfl) (gi0 rfl) (oE tbok [] 1 (by kernel_rfl) (oL [] rfl (by kernel_rfl) (fl_call rfl Tryz.call88 rfl (by kernel_rfl) (by kernel_rfl) (num_None_meets k8)) (oL [] rfl (by kernel_rfl) (fl_lt (len_sl (e := e_itv_Itv) rfl u58 rfl)) (oE tbok [] 2 (by kernel_rfl) trivial)))) rfl rfl ty64 rfl rfl rfl rfl rfl rfl (putE 53 (.all rfl) rfl (by decide)) (SetAt.eq (.s (.s .z))) ?_
      refine d_store (wm [0, 1, 3, 7, 0, 15, 63]) 6 rfl (by kernel_rfl) (by kernel_rfl) (by kernel_rfl) (by kernel_rfl) (by kernel_rfl) (gi0 rfl) (oN 1 (by kernel_rfl) (oE tbok [] 1 (by kernel_rfl) (oN 4 (by kernel_rfl) trivial))) rfl rfl ty305 rfl rfl rfl rfl rfl rfl (putE 2 (.all rfl) rfl (by decide)) (SetAt.eq (.s (.s (.s .z)))) ?_
      refine d_endS (env2 := [(2, [.c (.box 0 0)]), (3, [.c (.box 1 0)]), (4, [.c (.box 2 0)]), (5, [.c (.box 3 0)]), (6, [.c (.box 4 0)]), (7, [.c (.box 5 0)]), (8, [.c (.box 6 0)])]) (wm [0, 1, 3, 7, 0, 15, 63]) (by kernel_rfl) (by kernel_rfl) (by kernel_rfl) (oN 7 (by kernel_rfl) trivial) (sub_cons rfl (sub_cons rfl (sub_cons rfl (sub_cons rfl (sub_cons rfl (sub_cons rfl (sub_cons rfl sub_nil))))))) wT ?_
      refine then_ ?_
      refine ret_ ?_
      obtain rfl := retE h
      refine tR (rwr (rw_ (.cellA (ys := (bs (e_num_Num v6))) ty64 rfl rfl (by kernel_rfl) (by kernel_rfl) (.cellA (ys := [.pv (.bool v1.2.2.Overflow), .pv (.bool v1.2.2.DivZero)]) ty305 rfl rfl (by kernel_rfl) (by kernel_rfl) .nil)) ?_))
      refine w_none 0 .z ?_
      refine w_none 1 (.s .z) ?_
      refine w_none 2 (.s (.s .z)) ?_
      refine w_none 3 (.s (.s (.s .z))) ?_
      refine w_none 4 (.s (.s (.s (.s .z)))) ?_
      refine w_none 5 (.s (.s (.s (.s (.s .z))))) ?_
      refine w_none 6 (.s (.s (.s (.s (.s (.s .z)))))) ?_
      refine w_cut 0 rfl rfl rfl rfl ?_
      exact wkE (by kernel_rfl) (by kernel_rfl)
    · have h := iteF h k6
      refine skip_ ?_
      refine then_ ?_
      refine seq_ ?_
      refine region_ ?_
      refine R tbok 2 [41, 2, 3, 4, 5, 6, 7, 8] [(41, [.agg [.pv (.int .i64 a1.L.Kind), .pv (.int .i64 a1.L.Num), .pv (.int .i64 a1.L.Var), .pv (.sl (List.map e_check_Expr a1.L.Kids))]]), (2, [.c (.box 0 0)]), (3, [.c (.box 1 0)]), (4, [.c (.box 2 0)]), (5, [.c (.box 3 0)]), (6, [.c (.box 4 0)]), (7, [.c (.box 5 0)]), (8, [.c (.box 6 0)])] (by kernel_rfl) ?_
      obtain ⟨v7, k9, h⟩ := bindE h
      refine C rfl rfl (fl_call rfl Tryz.call189 rfl (by kernel_rfl) (by kernel_rfl) (eval_linear_meets k9)) rfl ?_
      refine R tbok 3 [44, 43, 2, 3, 4, 5, 6, 7, 8] [(44, [.c (.pv (.bool v7.2))]), (43, [.agg [.pv (.int .i64 v7.1.f_v), .pv (.int .i64 v7.1.f_by)]]), (2, [.c (.box 0 0)]), (3, [.c (.box 1 0)]), (4, [.c (.box 2 0)]), (5, [.c (.box 3 0)]), (6, [.c (.box 4 0)]), (7, [.c (.box 5 0)]), (8, [.c (.box 6 0)])] (by kernel_rfl) ?_
      refine B rfl rfl (bir_alloc rfl z349 rfl rfl) rfl rfl (.s (.s (.s (.s (.s (.s (.s .z))))))) ?_
      refine S rfl rfl rfl ty349 (by decide) rfl rfl rfl rfl rfl (.all rfl) (.s (.s (.s (.s (.s (.s (.s .z))))))) ?_
      refine R tbok 1 [10, 9, 2, 3, 4, 5, 6, 7, 8] [(10, [.c (.pv (.bool v7.2))]), (9, [.c (.box 7 0)]), (2, [.c (.box 0 0)]), (3, [.c (.box 1 0)]), (4, [.c (.box 2 0)]), (5, [.c (.box 3 0)]), (6, [.c (.box 4 0)]), (7, [.c (.box 5 0)]), (8, [.c (.box 6 0)])] (by kernel_rfl) ?_
      refine ops_nil ?_
      refine then_ ?_
      refine seq_ ?_
      refine region_ ?_
      refine R tbok 2 [47, 10, 9, 2, 3, 4, 5, 6, 7, 8] [(47, [.agg [.pv (.int .i64 a1.R.Kind), .pv (.int .i64 a1.R.Num), .pv (.int .i64 a1.R.Var), .pv (.sl (List.map e_check_Expr a1.R.Kids))]]), (10, [.c (.pv (.bool v7.2))]), (9, [.c (.box 7 0)]), (2, [.c (.box 0 0)]), (3, [.c (.box 1 0)]), (4, [.c (.box 2 0)]), (5, [.c (.box 3 0)]), (6, [.c (.box 4 0)]), (7, [.c (.box 5 0)]), (8, [.c (.box 6 0)])] (by kernel_rfl) ?_
      obtain ⟨v8, k10, h⟩ := bindE h
      refine C rfl rfl (fl_call rfl Tryz.call189 rfl (by kernel_rfl) (by kernel_rfl) (eval_linear_meets k10)) rfl ?_
      refine R tbok 3 [50, 49, 10, 9, 2, 3, 4, 5, 6, 7, 8] [(50, [.c (.pv (.bool v8.2))]), (49, [.agg [.pv (.int .i64 v8.1.f_v), .pv (.int .i64 v8.1.f_by)]]), (10, [.c (.pv (.bool v7.2))]), (9, [.c (.box 7 0)]), (2, [.c (.box 0 0)]), (3, [.c (.box 1 0)]), (4, [.c (.box 2 0)]), (5, [.c (.box 3 0)]), (6, [.c (.box 4 0)]), (7, [.c (.box 5 0)]), (8, [.c (.box 6 0)])] (by kernel_rfl) ?_
      refine B rfl rfl (bir_alloc rfl z349 rfl rfl) rfl rfl (.s (.s (.s (.s (.s (.s (.s (.s .z)))))))) ?_
      refine S rfl rfl rfl ty349 (by decide) rfl rfl rfl rfl rfl (.all rfl) (.s (.s (.s (.s (.s (.s (.s (.s .z)))))))) ?_
      refine R tbok 1 [12, 11, 10, 9, 2, 3, 4, 5, 6, 7, 8] [(12, [.c (.pv (.bool v8.2))]), (11, [.c (.box 8 0)]), (10, [.c (.pv (.bool v7.2))]), (9, [.c (.box 7 0)]), (2, [.c (.box 0 0)]), (3, [.c (.box 1 0)]), (4, [.c (.box 2 0)]), (5, [.c (.box 3 0)]), (6, [.c (.box 4 0)]), (7, [.c (.box 5 0)]), (8, [.c (.box 6 0)])] (by kernel_rfl) ?_
      refine ops_nil ?_
      refine then_ ?_
      refine seq_ ?_
      refine jn_ (fun (j2 : num_Num) => (⟨73, 0, [(2, [.c (.box 0 0)]), (3, [.c (.box 1 0)]), (4, [.c (.box 2 0)]), (5, [.c (.box 3 0)]), (7, [.c (.box 5 0)]), (8, [.c (.box 6 0)]), (9, [.c (.box 7 0)]), (10, [.c (.pv (.bool v7.2))]), (11, [.c (.box 8 0)]), (12, [.c (.pv (.bool v8.2))])], [some (.box true 64 (bs (e_num_Num j2))), some (.box true 52 (bs (e_check_Cond a1))), some (.box true 64 ([.pv (.bool false), .emp, .pv (.int .i64 0), .pv (.bool false)] ++ bs (e_T60 (arr (arr 0 []) [(arr 0 [0, 0, 0, 0, 0, 0, 0]), (arr 0 [0, 0, 0, 0, 0, 0, 0]), (arr 0 [0, 0, 0, 0, 0, 0, 0]), (arr 0 [0, 0, 0, 0, 0, 0, 0]), (arr 0 [0, 0, 0, 0, 0, 0, 0]), (arr 0 [0, 0, 0, 0, 0, 0, 0]), (arr 0 [0, 0, 0, 0, 0, 0, 0])])))), some (.box true 305 [.pv (.bool false), .pv (.bool false)]), none, some (.box true 72 [.pv (.int .i64 v2.2.Lo), .pv (.int .i64 v2.2.Hi)]), some (.box true 305 [.pv (.bool v1.2.2.Overflow), .pv (.bool v1.2.2.DivZero)]), some (.box true 349 [.pv (.int .i64 v7.1.f_v), .pv (.int .i64 v7.1.f_by)]), some (.box true 349 [.pv (.int .i64 v8.1.f_v), .pv (.int .i64 v8.1.f_by)])]⟩ : Sx)) h wT (fun o h => ?_) (fun j2 h => ?_)
      · refine seq_ ?_
        refine region_ ?_
        refine R tbok 1 [51, 12, 11, 10, 9, 2, 3, 4, 5, 6, 7, 8] [(51, [.c (.pv (.bool v7.2))]), (12, [.c (.pv (.bool v8.2))]), (11, [.c (.box 8 0)]), (10, [.c (.pv (.bool v7.2))]), (9, [.c (.box 7 0)]), (2, [.c (.box 0 0)]), (3, [.c (.box 1 0)]), (4, [.c (.box 2 0)]), (5, [.c (.box 3 0)]), (6, [.c (.box 4 0)]), (7, [.c (.box 5 0)]), (8, [.c (.box 6 0)])] (by kernel_rfl) ?_
        refine ops_nil ?_
        refine then_ ?_
        refine cond_ (b := v7.2) rfl (fun k11 => ?_) (fun k11 => ?_)
        · have h := iteT h k11
          refine region_ ?_
          refine R tbok 3 [54, 53, 52, 12, 11, 10, 9, 2, 3, 4, 5, 7, 8] [(54, [.agg [.pv (.int .i64 v2.1.Lo), .pv (.int .i64 v2.1.Hi)]]), (53, [.agg [.pv (.int .i64 v7.1.f_v), .pv (.int .i64 v7.1.f_by)]]), (52, [.agg (bs (e_num_Num a0))]), (12, [.c (.pv (.bool v8.2))]), (11, [.c (.box 8 0)]), (10, [.c (.pv (.bool v7.2))]), (9, [.c (.box 7 0)]), (2, [.c (.box 0 0)]), (3, [.c (.box 1 0)]), (4, [.c (.box 2 0)]), (5, [.c (.box 3 0)]), (7, [.c (.box 5 0)]), (8, [.c (.box 6 0)])] (by kernel_rfl) ?_
          obtain ⟨v9, k12, h⟩ := bindE h
          refine C rfl rfl (fl_call rfl Tryz.call190 rfl (by kernel_rfl) (by kernel_rfl) (eval_held_meets k12)) rfl ?_
          refine S rfl rfl rfl ty64 (by decide) rfl rfl rfl rfl rfl (.all rfl) .z ?_
          refine ops_nil ?_
          obtain rfl := retE h
          refine mN ?_
          refine w_sub (env' := [(2, [.c (.box 0 0)]), (3, [.c (.box 1 0)]), (4, [.c (.box 2 0)]), (5, [.c (.box 3 0)]), (7, [.c (.box 5 0)]), (8, [.c (.box 6 0)]), (9, [.c (.box 7 0)]), (10, [.c (.pv (.bool v7.2))]), (11, [.c (.box 8 0)]), (12, [.c (.pv (.bool v8.2))])]) (sub_cons rfl (sub_cons rfl (sub_cons rfl (sub_cons rfl (sub_cons rfl (sub_cons rfl (sub_cons rfl (sub_cons rfl (sub_cons rfl (sub_cons rfl sub_nil)))))))))) ?_
          refine w_none 4 (.s (.s (.s (.s .z)))) ?_
          exact wkE (by kernel_rfl) (by kernel_rfl)
        · have h := iteF h k11
          refine skip_ ?_
          obtain rfl := retE h
          refine mN ?_
          refine w_sub (env' := [(2, [.c (.box 0 0)]), (3, [.c (.box 1 0)]), (4, [.c (.box 2 0)]), (5, [.c (.box 3 0)]), (7, [.c (.box 5 0)]), (8, [.c (.box 6 0)]), (9, [.c (.box 7 0)]), (10, [.c (.pv (.bool v7.2))]), (11, [.c (.box 8 0)]), (12, [.c (.pv (.bool v8.2))])]) (sub_cons rfl (sub_cons rfl (sub_cons rfl (sub_cons rfl (sub_cons rfl (sub_cons rfl (sub_cons rfl (sub_cons rfl (sub_cons rfl (sub_cons rfl sub_nil)))))))))) ?_
          refine w_none 4 (.s (.s (.s (.s .z)))) ?_
          exact wkE (by kernel_rfl) (by kernel_rfl)
      · refine then_ ?_
        refine seq_ ?_
        refine jn_ (fun (j3 : num_Num) => (⟨73, 0, [(2, [.c (.box 0 0)]), (3, [.c (.box 1 0)]), (4, [.c (.box 2 0)]), (5, [.c (.box 3 0)]), (8, [.c (.box 6 0)]), (9, [.c (.box 7 0)]), (10, [.c (.pv (.bool v7.2))]), (11, [.c (.box 8 0)]), (12, [.c (.pv (.bool v8.2))])], [some (.box true 64 (bs (e_num_Num j3))), some (.box true 52 (bs (e_check_Cond a1))), some (.box true 64 ([.pv (.bool false), .emp, .pv (.int .i64 0), .pv (.bool false)] ++ bs (e_T60 (arr (arr 0 []) [(arr 0 [0, 0, 0, 0, 0, 0, 0]), (arr 0 [0, 0, 0, 0, 0, 0, 0]), (arr 0 [0, 0, 0, 0, 0, 0, 0]), (arr 0 [0, 0, 0, 0, 0, 0, 0]), (arr 0 [0, 0, 0, 0, 0, 0, 0]), (arr 0 [0, 0, 0, 0, 0, 0, 0]), (arr 0 [0, 0, 0, 0, 0, 0, 0])])))), some (.box true 305 [.pv (.bool false), .pv (.bool false)]), none, none, some (.box true 305 [.pv (.bool v1.2.2.Overflow), .pv (.bool v1.2.2.DivZero)]), some (.box true 349 [.pv (.int .i64 v7.1.f_v), .pv (.int .i64 v7.1.f_by)]), some (.box true 349 [.pv (.int .i64 v8.1.f_v), .pv (.int .i64 v8.1.f_by)])]⟩ : Sx)) h wT (fun o h => ?_) (fun j3 h => ?_)
        · refine seq_ ?_
          refine region_ ?_
          refine R tbok 1 [56, 2, 3, 4, 5, 7, 8, 9, 10, 11, 12] [(56, [.c (.pv (.bool v8.2))]), (2, [.c (.box 0 0)]), (3, [.c (.box 1 0)]), (4, [.c (.box 2 0)]), (5, [.c (.box 3 0)]), (7, [.c (.box 5 0)]), (8, [.c (.box 6 0)]), (9, [.c (.box 7 0)]), (10, [.c (.pv (.bool v7.2))]), (11, [.c (.box 8 0)]), (12, [.c (.pv (.bool v8.2))])] (by kernel_rfl) ?_
          refine ops_nil ?_
          refine then_ ?_
          refine cond_ (b := v8.2) rfl (fun k13 => ?_) (fun k13 => ?_)
          · have h := iteT h k13
            refine region_ ?_
            refine R tbok 3 [59, 58, 57, 2, 3, 4, 5, 8, 9, 10, 11, 12] [(59, [.agg [.pv (.int .i64 v2.2.Lo), .pv (.int .i64 v2.2.Hi)]]), (58, [.agg [.pv (.int .i64 v8.1.f_v), .pv (.int .i64 v8.1.f_by)]]), (57, [.agg (bs (e_num_Num j2))]), (2, [.c (.box 0 0)]), (3, [.c (.box 1 0)]), (4, [.c (.box 2 0)]), (5, [.c (.box 3 0)]), (8, [.c (.box 6 0)]), (9, [.c (.box 7 0)]), (10, [.c (.pv (.bool v7.2))]), (11, [.c (.box 8 0)]), (12, [.c (.pv (.bool v8.2))])] (by kernel_rfl) ?_
            obtain ⟨v10, k14, h⟩ := bindE h
            refine C rfl rfl (fl_call rfl Tryz.call190 rfl (by kernel_rfl) (by kernel_rfl) (eval_held_meets k14)) rfl ?_
            refine S rfl rfl rfl ty64 (by decide) rfl rfl rfl rfl rfl (.all rfl) .z ?_
            refine ops_nil ?_
            obtain rfl := retE h
            refine mN ?_
            refine w_sub (env' := [(2, [.c (.box 0 0)]), (3, [.c (.box 1 0)]), (4, [.c (.box 2 0)]), (5, [.c (.box 3 0)]), (8, [.c (.box 6 0)]), (9, [.c (.box 7 0)]), (10, [.c (.pv (.bool v7.2))]), (11, [.c (.box 8 0)]), (12, [.c (.pv (.bool v8.2))])]) (sub_cons rfl (sub_cons rfl (sub_cons rfl (sub_cons rfl (sub_cons rfl (sub_cons rfl (sub_cons rfl (sub_cons rfl (sub_cons rfl sub_nil))))))))) ?_
            refine w_none 5 (.s (.s (.s (.s (.s .z))))) ?_
            exact wkE (by kernel_rfl) (by kernel_rfl)
          · have h := iteF h k13
            refine skip_ ?_
            obtain rfl := retE h
            refine mN ?_
            refine w_sub (env' := [(2, [.c (.box 0 0)]), (3, [.c (.box 1 0)]), (4, [.c (.box 2 0)]), (5, [.c (.box 3 0)]), (8, [.c (.box 6 0)]), (9, [.c (.box 7 0)]), (10, [.c (.pv (.bool v7.2))]), (11, [.c (.box 8 0)]), (12, [.c (.pv (.bool v8.2))])]) (sub_cons rfl (sub_cons rfl (sub_cons rfl (sub_cons rfl (sub_cons rfl (sub_cons rfl (sub_cons rfl (sub_cons rfl (sub_cons rfl sub_nil))))))))) ?_
            refine w_none 5 (.s (.s (.s (.s (.s .z))))) ?_
            exact wkE (by kernel_rfl) (by kernel_rfl)
        · refine then_ ?_
          refine seq_ ?_
          refine jn_ (fun (j4 : num_Num) => (⟨73, 0, [(2, [.c (.box 0 0)]), (4, [.c (.box 2 0)]), (5, [.c (.box 3 0)]), (8, [.c (.box 6 0)])], [some (.box true 64 (bs (e_num_Num j4))), none, some (.box true 64 ([.pv (.bool false), .emp, .pv (.int .i64 0), .pv (.bool false)] ++ bs (e_T60 (arr (arr 0 []) [(arr 0 [0, 0, 0, 0, 0, 0, 0]), (arr 0 [0, 0, 0, 0, 0, 0, 0]), (arr 0 [0, 0, 0, 0, 0, 0, 0]), (arr 0 [0, 0, 0, 0, 0, 0, 0]), (arr 0 [0, 0, 0, 0, 0, 0, 0]), (arr 0 [0, 0, 0, 0, 0, 0, 0]), (arr 0 [0, 0, 0, 0, 0, 0, 0])])))), some (.box true 305 [.pv (.bool false), .pv (.bool false)]), none, none, some (.box true 305 [.pv (.bool v1.2.2.Overflow), .pv (.bool v1.2.2.DivZero)])]⟩ : Sx)) h wT (fun o h => ?_) (fun j4 h => ?_)
          · refine seq_ ?_
            refine jn_ (fun (j5 : Bool) => (⟨73, 0, [(2, [.c (.box 0 0)]), (3, [.c (.box 1 0)]), (4, [.c (.box 2 0)]), (5, [.c (.box 3 0)]), (8, [.c (.box 6 0)]), (9, [.c (.box 7 0)]), (11, [.c (.box 8 0)]), (64, [.c (.pv (.bool j5))])], [some (.box true 64 (bs (e_num_Num j3))), some (.box true 52 (bs (e_check_Cond a1))), some (.box true 64 ([.pv (.bool false), .emp, .pv (.int .i64 0), .pv (.bool false)] ++ bs (e_T60 (arr (arr 0 []) [(arr 0 [0, 0, 0, 0, 0, 0, 0]), (arr 0 [0, 0, 0, 0, 0, 0, 0]), (arr 0 [0, 0, 0, 0, 0, 0, 0]), (arr 0 [0, 0, 0, 0, 0, 0, 0]), (arr 0 [0, 0, 0, 0, 0, 0, 0]), (arr 0 [0, 0, 0, 0, 0, 0, 0]), (arr 0 [0, 0, 0, 0, 0, 0, 0])])))), some (.box true 305 [.pv (.bool false), .pv (.bool false)]), none, none, some (.box true 305 [.pv (.bool v1.2.2.Overflow), .pv (.bool v1.2.2.DivZero)]), some (.box true 349 [.pv (.int .i64 v7.1.f_v), .pv (.int .i64 v7.1.f_by)]), some (.box true 349 [.pv (.int .i64 v8.1.f_v), .pv (.int .i64 v8.1.f_by)])]⟩ : Sx)) h wT (fun o h => ?_) (fun j5 h => ?_)
            · refine region_ ?_
              refine R tbok 2 [62, 2, 3, 4, 5, 8, 9, 11, 12] [(62, [.c (.pv (.bool v7.2))]), (2, [.c (.box 0 0)]), (3, [.c (.box 1 0)]), (4, [.c (.box 2 0)]), (5, [.c (.box 3 0)]), (8, [.c (.box 6 0)]), (9, [.c (.box 7 0)]), (11, [.c (.box 8 0)]), (12, [.c (.pv (.bool v8.2))])] (by kernel_rfl) ?_
              refine (tf v7.2).elim (fun k15 => ?_) (fun k15 => ?_)
              · have h := iteT h k15
                refine Lg rfl rfl rfl k15 rfl (lt_move rfl rfl) rfl ?_
                refine L rfl rfl (lt_pickT rfl rfl k15 rfl) rfl ?_
                refine ops_nil ?_
                obtain rfl := retE h
                refine mN ?_
                refine w_sub (env' := [(2, [.c (.box 0 0)]), (3, [.c (.box 1 0)]), (4, [.c (.box 2 0)]), (5, [.c (.box 3 0)]), (8, [.c (.box 6 0)]), (9, [.c (.box 7 0)]), (11, [.c (.box 8 0)]), (64, [.c (.pv (.bool v8.2))])]) (sub_cons rfl (sub_cons rfl (sub_cons rfl (sub_cons rfl (sub_cons rfl (sub_cons rfl (sub_cons rfl (sub_cons rfl sub_nil)))))))) ?_
                exact wkE (by kernel_rfl) (by kernel_rfl)
              · have h := iteF h k15
                refine Ls0 rfl rfl rfl k15 rfl rfl ?_
                refine L rfl rfl (lt_pickF rfl rfl k15 rfl) rfl ?_
                refine ops_nil ?_
                obtain rfl := retE h
                refine mN ?_
                refine w_sub (env' := [(2, [.c (.box 0 0)]), (3, [.c (.box 1 0)]), (4, [.c (.box 2 0)]), (5, [.c (.box 3 0)]), (8, [.c (.box 6 0)]), (9, [.c (.box 7 0)]), (11, [.c (.box 8 0)]), (64, [.c (.pv (.bool false))])]) (sub_cons rfl (sub_cons rfl (sub_cons rfl (sub_cons rfl (sub_cons rfl (sub_cons rfl (sub_cons rfl (sub_cons rfl sub_nil)))))))) ?_
                exact wkE (by kernel_rfl) (by kernel_rfl)
            · refine then_ ?_
              refine cond_ (b := j5) rfl (fun k16 => ?_) (fun k16 => ?_)
              · have h := iteT h k16
                refine region_ ?_
                refine R tbok 5 [69, 68, 67, 65, 2, 4, 5, 8] [(69, [.agg [.pv (.int .i64 v8.1.f_v), .pv (.int .i64 v8.1.f_by)]]), (68, [.agg [.pv (.int .i64 v7.1.f_v), .pv (.int .i64 v7.1.f_by)]]), (67, [.c (.pv (.int .i64 a1.Op))]), (65, [.agg (bs (e_num_Num j3))]), (2, [.c (.box 0 0)]), (4, [.c (.box 2 0)]), (5, [.c (.box 3 0)]), (8, [.c (.box 6 0)])] (by kernel_rfl) ?_
                obtain ⟨v11, k17, h⟩ := bindE h
                refine C rfl rfl (fl_call rfl Tryz.call191 rfl (by kernel_rfl) (by kernel_rfl) (eval_compared_meets k17)) rfl ?_
                refine S rfl rfl rfl ty64 (by decide) rfl rfl rfl rfl rfl (.all rfl) .z ?_
                refine ops_nil ?_
                obtain rfl := retE h
                refine mN ?_
                refine w_sub (env' := [(2, [.c (.box 0 0)]), (4, [.c (.box 2 0)]), (5, [.c (.box 3 0)]), (8, [.c (.box 6 0)])]) (sub_cons rfl (sub_cons rfl (sub_cons rfl (sub_cons rfl sub_nil)))) ?_
                refine w_none 1 (.s .z) ?_
                refine w_cut 7 rfl rfl rfl rfl ?_
                exact wkE (by kernel_rfl) (by kernel_rfl)
              · have h := iteF h k16
                refine skip_ ?_
                obtain rfl := retE h
                refine mN ?_
                refine w_sub (env' := [(2, [.c (.box 0 0)]), (4, [.c (.box 2 0)]), (5, [.c (.box 3 0)]), (8, [.c (.box 6 0)])]) (sub_cons rfl (sub_cons rfl (sub_cons rfl (sub_cons rfl sub_nil)))) ?_
                refine w_none 1 (.s .z) ?_
                refine w_cut 7 rfl rfl rfl rfl ?_
                exact wkE (by kernel_rfl) (by kernel_rfl)
          · refine then_ ?_
            refine seq_ ?_
            refine drawn_ mixed ?_
            refine dl (t := 71) 0 [.agg (bs (e_num_Num j4))] rfl ?_
            refine dl (t := 72) 1 [.agg [.pv (.bool v1.2.2.Overflow), .pv (.bool v1.2.2.DivZero)]] rfl ?_
            refine d_store (wm [0, 0, 1, 7]) 2 rfl (by kernel_rfl) (by kernel_rfl) (by kernel_rfl) (by kernel_rfl) (by kernel_rfl) (gi0 rfl) (oE tbok [] 2 (by kernel_rfl) trivial) rfl rfl ty64 rfl rfl rfl rfl rfl rfl (putE 53 (.all rfl) rfl (by decide)) (SetAt.eq (.s (.s .z))) ?_
            refine d_store (wm [0, 0, 1, 7]) 3 rfl (by kernel_rfl) (by kernel_rfl) (by kernel_rfl) (by kernel_rfl) (by kernel_rfl) (gi0 rfl) (oN 1 (by kernel_rfl) (oE tbok [] 1 (by kernel_rfl) (oN 1 (by kernel_rfl) trivial))) rfl rfl ty305 rfl rfl rfl rfl rfl rfl (putE 2 (.all rfl) rfl (by decide)) (SetAt.eq (.s (.s (.s .z)))) ?_
            refine d_endS (env2 := [(4, [.c (.box 2 0)]), (5, [.c (.box 3 0)])]) (wm [0, 0, 1, 7]) (by kernel_rfl) (by kernel_rfl) (by kernel_rfl) (oN 4 (by kernel_rfl) trivial) (sub_cons rfl (sub_cons rfl sub_nil)) wT ?_
            refine then_ ?_
            refine ret_ ?_
            obtain rfl := retE h
            refine rwr (rw_ (.cellA (ys := (bs (e_num_Num j4))) ty64 rfl rfl (by kernel_rfl) (by kernel_rfl) (.cellA (ys := [.pv (.bool v1.2.2.Overflow), .pv (.bool v1.2.2.DivZero)]) ty305 rfl rfl (by kernel_rfl) (by kernel_rfl) .nil)) ?_)
            refine w_none 0 .z ?_
            refine w_none 2 (.s (.s .z)) ?_
            refine w_none 3 (.s (.s (.s .z))) ?_
            refine w_none 6 (.s (.s (.s (.s (.s (.s .z)))))) ?_
            refine w_cut 0 rfl rfl rfl rfl ?_
            exact wkE (by kernel_rfl) (by kernel_rfl)

theorem trans_stepper_assert_meets {a0 : trans_stepper} {r : trans_stepper} (h : trans_stepper_assert a0 = some r) : MeetsS Tryz.prog GG 101 [.c (.box 0 0)] [some (.box true 171 ([.pv (.sl (List.map e_check_Chan a0.f_w.S.Chans)), .pv (.sl (List.map e_flow_Graph a0.f_w.S.Graphs)), .pv (.sl (List.map e_i64 a0.f_w.S.Vars)), .pv (.sl (List.map e_queue_Elem a0.f_w.Elems)), .pv (.sl (List.map e_bool a0.f_w.Deaf)), .pv (.int .i64 a0.f_proc), .pv (.sl (List.map e_i64 a0.f_out)), .pv (.int .i64 a0.f_at), .pv (.int .i64 a0.f_e.From), .pv (.int .i64 a0.f_e.To), .pv (.int .i64 a0.f_e.Kind), .pv (.int .i64 a0.f_e.Var), .pv (.int .i64 a0.f_e.Chan), .pv (.int .i64 a0.f_e.Tag), .pv (.int .i64 a0.f_e.E.Kind), .pv (.int .i64 a0.f_e.E.Num), .pv (.int .i64 a0.f_e.E.Var), .pv (.sl (List.map e_check_Expr a0.f_e.E.Kids)), .pv (.int .i64 a0.f_e.C.Op), .pv (.int .i64 a0.f_e.C.L.Kind), .pv (.int .i64 a0.f_e.C.L.Num), .pv (.int .i64 a0.f_e.C.L.Var), .pv (.sl (List.map e_check_Expr a0.f_e.C.L.Kids)), .pv (.int .i64 a0.f_e.C.R.Kind), .pv (.int .i64 a0.f_e.C.R.Num), .pv (.int .i64 a0.f_e.C.R.Var), .pv (.sl (List.map e_check_Expr a0.f_e.C.R.Kids)), .pv (.bool a0.f_a.N.None), .pv (.sl (List.map e_itv_Itv a0.f_a.N.I)), .pv (.int .i64 a0.f_a.N.Z.N), .pv (.bool a0.f_a.N.Z.None)] ++ (bs (e_T60 a0.f_a.N.Z.D) ++ ([.row 1, .row 2, .pv (.int .i64 a0.f_sent.Chan), .pv (.int .i64 a0.f_sent.Tag), .pv (.int .i64 a0.f_sent.Vals.Lo), .pv (.int .i64 a0.f_sent.Vals.Hi)] ++ bs (e_T169 a0.f_errors))))), some (.row true false 72 2 (List.map e_itv_Itv a0.f_a.Counts)), some (.row true false 161 1 (List.map e_rule_Set a0.f_a.Rules))] [] [some (.box true 171 ([.pv (.sl (List.map e_check_Chan r.f_w.S.Chans)), .pv (.sl (List.map e_flow_Graph r.f_w.S.Graphs)), .pv (.sl (List.map e_i64 r.f_w.S.Vars)), .pv (.sl (List.map e_queue_Elem r.f_w.Elems)), .pv (.sl (List.map e_bool r.f_w.Deaf)), .pv (.int .i64 r.f_proc), .pv (.sl (List.map e_i64 r.f_out)), .pv (.int .i64 r.f_at), .pv (.int .i64 r.f_e.From), .pv (.int .i64 r.f_e.To), .pv (.int .i64 r.f_e.Kind), .pv (.int .i64 r.f_e.Var), .pv (.int .i64 r.f_e.Chan), .pv (.int .i64 r.f_e.Tag), .pv (.int .i64 r.f_e.E.Kind), .pv (.int .i64 r.f_e.E.Num), .pv (.int .i64 r.f_e.E.Var), .pv (.sl (List.map e_check_Expr r.f_e.E.Kids)), .pv (.int .i64 r.f_e.C.Op), .pv (.int .i64 r.f_e.C.L.Kind), .pv (.int .i64 r.f_e.C.L.Num), .pv (.int .i64 r.f_e.C.L.Var), .pv (.sl (List.map e_check_Expr r.f_e.C.L.Kids)), .pv (.int .i64 r.f_e.C.R.Kind), .pv (.int .i64 r.f_e.C.R.Num), .pv (.int .i64 r.f_e.C.R.Var), .pv (.sl (List.map e_check_Expr r.f_e.C.R.Kids)), .pv (.bool r.f_a.N.None), .pv (.sl (List.map e_itv_Itv r.f_a.N.I)), .pv (.int .i64 r.f_a.N.Z.N), .pv (.bool r.f_a.N.Z.None)] ++ (bs (e_T60 r.f_a.N.Z.D) ++ ([.row 1, .row 2, .pv (.int .i64 r.f_sent.Chan), .pv (.int .i64 r.f_sent.Tag), .pv (.int .i64 r.f_sent.Vals.Lo), .pv (.int .i64 r.f_sent.Vals.Hi)] ++ bs (e_T169 r.f_errors))))), some (.row true true 72 2 (List.map e_itv_Itv r.f_a.Counts)), some (.row true true 161 1 (List.map e_rule_Set r.f_a.Rules))] := by
  refine meetsW_of (N := 55) r_trans_stepper_assert o_trans_stepper_assert r Tryz.func101 rfl rfl rfl (by dsimp only [argEnv]) rfl ?_
  unfold trans_stepper_assert at h
  refine seq_ ?_
  refine region_ ?_
  refine R tbok 5 [11, 0] [(11, [.agg (bs (e_check_Cond a0.f_e.C))]), (0, [.c (.box 0 0)])] (by kernel_rfl) ?_
  refine B rfl rfl (bir_alloc rfl z52 rfl rfl) rfl rfl (.s (.s (.s .z))) ?_
  refine S rfl rfl rfl ty52 (by decide) rfl rfl rfl rfl rfl (.all rfl) (.s (.s (.s .z))) ?_
  refine ops_nil ?_
  refine then_ ?_
  refine seq_ ?_
  refine region_ ?_
  refine R tbok 2 [13, 2, 0] [(13, [.c (.pv (.int .i64 a0.f_e.C.Op))]), (2, [.c (.box 3 0)]), (0, [.c (.box 0 0)])] (by kernel_rfl) ?_
  obtain ⟨v1, k1, h⟩ := bindE h
  refine C rfl rfl (fl_call rfl Tryz.call147 rfl (by kernel_rfl) (by kernel_rfl) (flow_Not_meets k1)) rfl ?_
  refine R tbok 1 [15, 14, 2, 0] [(15, [.c (.box 3 0)]), (14, [.c (.pv (.int .i64 v1))]), (2, [.c (.box 3 0)]), (0, [.c (.box 0 0)])] (by kernel_rfl) ?_
  refine SD (bs (e_check_Cond (check_Cond.mk v1 a0.f_e.C.L a0.f_e.C.R))) rfl rfl rfl ty3 (by decide) rfl rfl rfl rfl rfl (Nat.le_of_ble_eq_true rfl) (by kernel_rfl) (SetAt.eq (.s (.s (.s .z)))) ?_
  refine ops_nil ?_
  refine then_ ?_
  refine seq_ ?_
  refine drawn_ mixed ?_
  refine dl (t := 17) 0 [.c (.box 0 0)] rfl ?_
  refine dl (t := 18) 1 [.c (.box 0 0)] rfl ?_
  refine dl (t := 19) 2 [.c (.box 0 27)] rfl ?_
  refine dl (t := 20) 3 [.c (.box 0 27)] rfl ?_
  refine dl (t := 21) 4 [.agg (bs (e_num_Num a0.f_a.N))] rfl ?_
  refine dl (t := 22) 5 [.agg (bs (e_check_Cond (check_Cond.mk v1 a0.f_e.C.L a0.f_e.C.R)))] rfl ?_
  obtain ⟨v3, k3, h⟩ := bindE h
  refine dl (t := 23) 6 [.agg (bs (e_num_Num v3.1)), .agg [.pv (.bool v3.2.Overflow), .pv (.bool v3.2.DivZero)]] rfl ?_
  refine dl (t := 16) 7 [.agg (bs (e_num_Num v3.1)), .agg [.pv (.bool v3.2.Overflow), .pv (.bool v3.2.DivZero)]] rfl ?_
  refine dl (t := 24) 8 [.agg (bs (e_num_Num v3.1))] rfl ?_
  refine dl (t := 25) 9 [.agg [.pv (.bool v3.2.Overflow), .pv (.bool v3.2.DivZero)]] rfl ?_
  refine db (t := 3) 10 4 [.c (.box 4 0)] ((.box true 64 ([.pv (.bool false), .emp, .pv (.int .i64 0), .pv (.bool false)] ++ bs (e_T60 (arr (arr 0 []) [(arr 0 [0, 0, 0, 0, 0, 0, 0]), (arr 0 [0, 0, 0, 0, 0, 0, 0]), (arr 0 [0, 0, 0, 0, 0, 0, 0]), (arr 0 [0, 0, 0, 0, 0, 0, 0]), (arr 0 [0, 0, 0, 0, 0, 0, 0]), (arr 0 [0, 0, 0, 0, 0, 0, 0]), (arr 0 [0, 0, 0, 0, 0, 0, 0])]))))) rfl rfl (Push.eq (.s (.s (.s (.s .z))))) ?_
  refine db (t := 4) 11 5 [.c (.box 5 0)] ((.box true 305 [.pv (.bool false), .pv (.bool false)])) rfl rfl (Push.eq (.s (.s (.s (.s (.s .z)))))) ?_
  refine d_store (wm [0, 1, 3, 7, 15, 0, 63, 127, 255, 255, 0, 0, 3583, 8191]) 12 rfl (by kernel_rfl) (by kernel_rfl) (by kernel_rfl) (by kernel_rfl) (by kernel_rfl) (gi0 rfl) (owF (by kernel_rfl) (fo_b [5, 4] rfl rfl rfl (by kernel_rfl) (by kernel_rfl) (by kernel_rfl) (gi0 rfl) (bir_alloc rfl z305 rfl rfl) (by kernel_rfl) (by kernel_rfl)) (owF (by kernel_rfl) (fo_b [5, 4] rfl rfl rfl (by kernel_rfl) (by kernel_rfl) (by kernel_rfl) (gi0 rfl) (bir_alloc rfl z64 rfl rfl) (by kernel_rfl) (by kernel_rfl)) (oE tbok [5, 4] 3 (by kernel_rfl) (oL [5, 4] rfl (by kernel_rfl) (fl_call rfl Tryz.call145 rfl (by kernel_rfl) (by kernel_rfl) (eval_Assume_meets k3)) (oE tbok [5, 4] 6 (by kernel_rfl) trivial))))) rfl rfl ty64 rfl rfl rfl rfl rfl rfl (putE 53 (.all rfl) rfl (by decide)) (SetAt.eq (.s (.s (.s (.s .z))))) ?_
  refine d_store (wm [0, 1, 3, 7, 15, 0, 63, 127, 255, 255, 0, 0, 3583, 8191]) 13 rfl (by kernel_rfl) (by kernel_rfl) (by kernel_rfl) (by kernel_rfl) (by kernel_rfl) (gi0 rfl) (oN 3 (by kernel_rfl) (oE tbok [5, 4] 1 (by kernel_rfl) (oN 9 (by kernel_rfl) trivial))) rfl rfl ty305 rfl rfl rfl rfl rfl rfl (putE 2 (.all rfl) rfl (by decide)) (SetAt.eq (.s (.s (.s (.s (.s .z)))))) ?_
  refine d_endS (env2 := [(3, [.c (.box 4 0)]), (0, [.c (.box 0 0)])]) (wm [0, 1, 3, 7, 15, 0, 63, 127, 255, 255, 0, 0, 3583, 8191]) (by kernel_rfl) (by kernel_rfl) (by kernel_rfl) (oN 14 (by kernel_rfl) trivial) (sub_cons rfl (sub_cons rfl sub_nil)) wT ?_
  refine then_ ?_
  refine seq_ ?_
  refine drawn_ mixed ?_
  refine dl (t := 27) 0 [.c (.box 0 0)] rfl ?_
  refine dl (t := 28) 1 [.c (.box 0 0)] rfl ?_
  refine dl (t := 29) 2 [.c (.box 0 27)] rfl ?_
  refine dl (t := 30) 3 [.c (.box 0 27)] rfl ?_
  refine dl (t := 31) 4 [.agg (bs (e_num_Num a0.f_a.N))] rfl ?_
  refine dl (t := 32) 5 [.c (.box 0 0)] rfl ?_
  refine dl (t := 33) 6 [.c (.box 0 0)] rfl ?_
  refine dl (t := 34) 7 [.c (.box 0 8)] rfl ?_
  refine dl (t := 35) 8 [.c (.box 0 18)] rfl ?_
  refine dl (t := 36) 9 [.agg (bs (e_check_Cond a0.f_e.C))] rfl ?_
  obtain ⟨v5, k5, h⟩ := bindE h
  refine dl (t := 37) 10 [.agg (bs (e_num_Num v5.1)), .agg [.pv (.bool v5.2.Overflow), .pv (.bool v5.2.DivZero)]] rfl ?_
  refine dl (t := 26) 11 [.agg (bs (e_num_Num v5.1)), .agg [.pv (.bool v5.2.Overflow), .pv (.bool v5.2.DivZero)]] rfl ?_
  refine dl (t := 38) 12 [.agg (bs (e_num_Num v5.1))] rfl ?_
  refine dl (t := 39) 13 [.agg [.pv (.bool v5.2.Overflow), .pv (.bool v5.2.DivZero)]] rfl ?_
  refine db (t := 5) 14 6 [.c (.box 6 0)] ((.box true 64 ([.pv (.bool false), .emp, .pv (.int .i64 0), .pv (.bool false)] ++ bs (e_T60 (arr (arr 0 []) [(arr 0 [0, 0, 0, 0, 0, 0, 0]), (arr 0 [0, 0, 0, 0, 0, 0, 0]), (arr 0 [0, 0, 0, 0, 0, 0, 0]), (arr 0 [0, 0, 0, 0, 0, 0, 0]), (arr 0 [0, 0, 0, 0, 0, 0, 0]), (arr 0 [0, 0, 0, 0, 0, 0, 0]), (arr 0 [0, 0, 0, 0, 0, 0, 0])]))))) rfl rfl (Push.eq (.s (.s (.s (.s (.s (.s .z))))))) ?_
  refine db (t := 6) 15 7 [.c (.box 7 0)] ((.box true 305 [.pv (.bool false), .pv (.bool false)])) rfl rfl (Push.eq (.s (.s (.s (.s (.s (.s (.s .z)))))))) ?_
  refine d_store (wm [0, 1, 3, 7, 15, 0, 32, 96, 224, 480, 1023, 2047, 4095, 4095, 0, 0, 57343, 131071]) 16 rfl (by kernel_rfl) (by kernel_rfl) (by kernel_rfl) (by kernel_rfl) (by kernel_rfl) (gi0 rfl) (owF (by kernel_rfl) (fo_b [7, 6] rfl rfl rfl (by kernel_rfl) (by kernel_rfl) (by kernel_rfl) (gi0 rfl) (bir_alloc rfl z305 rfl rfl) (by kernel_rfl) (by kernel_rfl)) (owF (by kernel_rfl) (fo_b [7, 6] rfl rfl rfl (by kernel_rfl) (by kernel_rfl) (by kernel_rfl) (gi0 rfl) (bir_alloc rfl z64 rfl rfl) (by kernel_rfl) (by kernel_rfl)) (oE tbok [7, 6] 3 (by kernel_rfl) (oL [7, 6] rfl (by kernel_rfl) (fl_call rfl Tryz.call145 rfl (by kernel_rfl) (by kernel_rfl) (eval_Assume_meets k5)) (oE tbok [7, 6] 10 (by kernel_rfl) trivial))))) rfl rfl ty64 rfl rfl rfl rfl rfl rfl (putE 53 (.all rfl) rfl (by decide)) (SetAt.eq (.s (.s (.s (.s (.s (.s .z))))))) ?_
  refine d_store (wm [0, 1, 3, 7, 15, 0, 32, 96, 224, 480, 1023, 2047, 4095, 4095, 0, 0, 57343, 131071]) 17 rfl (by kernel_rfl) (by kernel_rfl) (by kernel_rfl) (by kernel_rfl) (by kernel_rfl) (gi0 rfl) (oN 3 (by kernel_rfl) (oE tbok [7, 6] 1 (by kernel_rfl) (oN 13 (by kernel_rfl) trivial))) rfl rfl ty305 rfl rfl rfl rfl rfl rfl (putE 2 (.all rfl) rfl (by decide)) (SetAt.eq (.s (.s (.s (.s (.s (.s (.s .z)))))))) ?_
  refine d_endS (env2 := [(6, [.c (.box 7 0)]), (5, [.c (.box 6 0)]), (3, [.c (.box 4 0)]), (0, [.c (.box 0 0)])]) (wm [0, 1, 3, 7, 15, 0, 32, 96, 224, 480, 1023, 2047, 4095, 4095, 0, 0, 57343, 131071]) (by kernel_rfl) (by kernel_rfl) (by kernel_rfl) (oN 18 (by kernel_rfl) trivial) (sub_cons rfl (sub_cons rfl (sub_cons rfl (sub_cons rfl sub_nil)))) wT ?_
  refine then_ ?_
  refine seq_ ?_
  refine region_ ?_
  refine R tbok 5 [44, 41, 6, 3, 0] [(44, [.c (.box 0 27)]), (41, [.agg (bs (e_num_Num v5.1))]), (6, [.c (.box 7 0)]), (3, [.c (.box 4 0)]), (0, [.c (.box 0 0)])] (by kernel_rfl) ?_
  obtain ⟨v6, k6, h⟩ := bindE h
  refine SD ([.pv (.sl (List.map e_check_Chan v6.f_w.S.Chans)), .pv (.sl (List.map e_flow_Graph v6.f_w.S.Graphs)), .pv (.sl (List.map e_i64 v6.f_w.S.Vars)), .pv (.sl (List.map e_queue_Elem v6.f_w.Elems)), .pv (.sl (List.map e_bool v6.f_w.Deaf)), .pv (.int .i64 v6.f_proc), .pv (.sl (List.map e_i64 v6.f_out)), .pv (.int .i64 v6.f_at), .pv (.int .i64 v6.f_e.From), .pv (.int .i64 v6.f_e.To), .pv (.int .i64 v6.f_e.Kind), .pv (.int .i64 v6.f_e.Var), .pv (.int .i64 v6.f_e.Chan), .pv (.int .i64 v6.f_e.Tag), .pv (.int .i64 v6.f_e.E.Kind), .pv (.int .i64 v6.f_e.E.Num), .pv (.int .i64 v6.f_e.E.Var), .pv (.sl (List.map e_check_Expr v6.f_e.E.Kids)), .pv (.int .i64 v6.f_e.C.Op), .pv (.int .i64 v6.f_e.C.L.Kind), .pv (.int .i64 v6.f_e.C.L.Num), .pv (.int .i64 v6.f_e.C.L.Var), .pv (.sl (List.map e_check_Expr v6.f_e.C.L.Kids)), .pv (.int .i64 v6.f_e.C.R.Kind), .pv (.int .i64 v6.f_e.C.R.Num), .pv (.int .i64 v6.f_e.C.R.Var), .pv (.sl (List.map e_check_Expr v6.f_e.C.R.Kids)), .pv (.bool v6.f_a.N.None), .pv (.sl (List.map e_itv_Itv v6.f_a.N.I)), .pv (.int .i64 v6.f_a.N.Z.N), .pv (.bool v6.f_a.N.Z.None)] ++ (bs (e_T60 v6.f_a.N.Z.D) ++ ([.row 1, .row 2, .pv (.int .i64 v6.f_sent.Chan), .pv (.int .i64 v6.f_sent.Tag), .pv (.int .i64 v6.f_sent.Vals.Lo), .pv (.int .i64 v6.f_sent.Vals.Hi)] ++ bs (e_T169 v6.f_errors)))) rfl rfl rfl ty64 (by decide) rfl rfl rfl rfl rfl (Nat.le_of_ble_eq_true rfl) (by rw [← retE k6]; kernel_rfl) (SetAt.eq .z) ?_
  refine ops_nil ?_
  refine then_ ?_
  refine seq_ ?_
  refine region_ ?_
  refine R tbok 2 [46, 45, 3, 0] [(46, [.agg [.pv (.bool v5.2.Overflow), .pv (.bool v5.2.DivZero)]]), (45, [.c (.box 0 0)]), (3, [.c (.box 4 0)]), (0, [.c (.box 0 0)])] (by kernel_rfl) ?_
  obtain ⟨v7, k7, h⟩ := bindE h
  refine callS (env' := [(46, [.agg [.pv (.bool v5.2.Overflow), .pv (.bool v5.2.DivZero)]]), (45, [.c (.box 0 0)]), (3, [.c (.box 4 0)]), (0, [.c (.box 0 0)])]) (argsX' := []) (st' := [some (.box true 171 ([.pv (.sl (List.map e_check_Chan v7.f_w.S.Chans)), .pv (.sl (List.map e_flow_Graph v7.f_w.S.Graphs)), .pv (.sl (List.map e_i64 v7.f_w.S.Vars)), .pv (.sl (List.map e_queue_Elem v7.f_w.Elems)), .pv (.sl (List.map e_bool v7.f_w.Deaf)), .pv (.int .i64 v7.f_proc), .pv (.sl (List.map e_i64 v7.f_out)), .pv (.int .i64 v7.f_at), .pv (.int .i64 v7.f_e.From), .pv (.int .i64 v7.f_e.To), .pv (.int .i64 v7.f_e.Kind), .pv (.int .i64 v7.f_e.Var), .pv (.int .i64 v7.f_e.Chan), .pv (.int .i64 v7.f_e.Tag), .pv (.int .i64 v7.f_e.E.Kind), .pv (.int .i64 v7.f_e.E.Num), .pv (.int .i64 v7.f_e.E.Var), .pv (.sl (List.map e_check_Expr v7.f_e.E.Kids)), .pv (.int .i64 v7.f_e.C.Op), .pv (.int .i64 v7.f_e.C.L.Kind), .pv (.int .i64 v7.f_e.C.L.Num), .pv (.int .i64 v7.f_e.C.L.Var), .pv (.sl (List.map e_check_Expr v7.f_e.C.L.Kids)), .pv (.int .i64 v7.f_e.C.R.Kind), .pv (.int .i64 v7.f_e.C.R.Num), .pv (.int .i64 v7.f_e.C.R.Var), .pv (.sl (List.map e_check_Expr v7.f_e.C.R.Kids)), .pv (.bool v7.f_a.N.None), .pv (.sl (List.map e_itv_Itv v7.f_a.N.I)), .pv (.int .i64 v7.f_a.N.Z.N), .pv (.bool v7.f_a.N.Z.None)] ++ (bs (e_T60 v7.f_a.N.Z.D) ++ ([.row 1, .row 2, .pv (.int .i64 v7.f_sent.Chan), .pv (.int .i64 v7.f_sent.Tag), .pv (.int .i64 v7.f_sent.Vals.Lo), .pv (.int .i64 v7.f_sent.Vals.Hi)] ++ bs (e_T169 v7.f_errors))))), some (.row true true 72 2 (List.map e_itv_Itv v7.f_a.Counts)), some (.row true true 161 1 (List.map e_rule_Set v7.f_a.Rules)), some (.box true 52 (bs (e_check_Cond (check_Cond.mk v1 a0.f_e.C.L a0.f_e.C.R)))), some (.box true 64 (bs (e_num_Num v3.1))), some (.box true 305 [.pv (.bool v3.2.Overflow), .pv (.bool v3.2.DivZero)]), some (.box true 64 (bs (e_num_Num v5.1))), some (.box true 305 [.pv (.bool v5.2.Overflow), .pv (.bool v5.2.DivZero)])]) [0, 1, 2] [] rfl rfl rfl rfl Tryz.call144 rfl rfl (by kernel_rfl) (by kernel_rfl) (trans_stepper_may_meets k7) (by kernel_rfl) (by kernel_rfl) (by kernel_rfl) ?_
  refine ops_nil ?_
  refine then_ ?_
  refine drawn_ mixed ?_
  refine dl (t := 48) 0 [.c (.box 0 0)] rfl ?_
  refine dl (t := 49) 1 [.c (.box 4 0)] rfl ?_
  refine dl (t := 50) 2 [.c (.pv (.bool v3.1.None))] rfl ?_
  refine dl (t := 51) 3 [.c (.pv (.bool (!v3.1.None)))] rfl ?_
  refine dl (t := 52) 4 [.c (.box 0 0)] rfl ?_
  refine dl (t := 53) 5 [.c (.box 0 86)] rfl ?_
  refine dl (t := 54) 6 [.c (.box 0 87)] rfl ?_
  obtain ⟨v8, k8, h⟩ := bindE h
  refine d_store (cs' := ([.pv (.sl (List.map e_check_Chan v8.f_w.S.Chans)), .pv (.sl (List.map e_flow_Graph v8.f_w.S.Graphs)), .pv (.sl (List.map e_i64 v8.f_w.S.Vars)), .pv (.sl (List.map e_queue_Elem v8.f_w.Elems)), .pv (.sl (List.map e_bool v8.f_w.Deaf)), .pv (.int .i64 v8.f_proc), .pv (.sl (List.map e_i64 v8.f_out)), .pv (.int .i64 v8.f_at), .pv (.int .i64 v8.f_e.From), .pv (.int .i64 v8.f_e.To), .pv (.int .i64 v8.f_e.Kind), .pv (.int .i64 v8.f_e.Var), .pv (.int .i64 v8.f_e.Chan), .pv (.int .i64 v8.f_e.Tag), .pv (.int .i64 v8.f_e.E.Kind), .pv (.int .i64 v8.f_e.E.Num), .pv (.int .i64 v8.f_e.E.Var), .pv (.sl (List.map e_check_Expr v8.f_e.E.Kids)), .pv (.int .i64 v8.f_e.C.Op), .pv (.int .i64 v8.f_e.C.L.Kind), .pv (.int .i64 v8.f_e.C.L.Num), .pv (.int .i64 v8.f_e.C.L.Var), .pv (.sl (List.map e_check_Expr v8.f_e.C.L.Kids)), .pv (.int .i64 v8.f_e.C.R.Kind), .pv (.int .i64 v8.f_e.C.R.Num), .pv (.int .i64 v8.f_e.C.R.Var), .pv (.sl (List.map e_check_Expr v8.f_e.C.R.Kids)), .pv (.bool v8.f_a.N.None), .pv (.sl (List.map e_itv_Itv v8.f_a.N.I)), .pv (.int .i64 v8.f_a.N.Z.N), .pv (.bool v8.f_a.N.Z.None)] ++ (bs (e_T60 v8.f_a.N.Z.D) ++ ([.row 1, .row 2, .pv (.int .i64 v8.f_sent.Chan), .pv (.int .i64 v8.f_sent.Tag), .pv (.int .i64 v8.f_sent.Vals.Lo), .pv (.int .i64 v8.f_sent.Vals.Hi)] ++ bs (e_T169 v8.f_errors))))) (wm [0, 0, 2, 6, 1, 17, 63, 127]) 7 rfl (by kernel_rfl) (by kernel_rfl) (by kernel_rfl) (by kernel_rfl) (by kernel_rfl) (gi0 rfl) (oL [] rfl (by kernel_rfl) (fl_lt (ia_box rfl u169 ty4 rfl rfl rfl 87 rfl)) (oE tbok [] 6 (by kernel_rfl) trivial)) rfl rfl ty4 rfl rfl rfl rfl rfl rfl (by rw [← retE k8]; kernel_rfl) (SetAt.eq .z) ?_
  refine d_endS (env2 := []) (wm [0, 0, 2, 6, 1, 17, 63, 127]) (by kernel_rfl) (by kernel_rfl) (by kernel_rfl) (oN 8 (by kernel_rfl) trivial) sub_nil wW ?_
  obtain rfl := retE h
  refine rwn .nil ?_
  refine w_none 3 (.s (.s (.s .z))) ?_
  refine w_none 4 (.s (.s (.s (.s .z)))) ?_
  refine w_none 5 (.s (.s (.s (.s (.s .z))))) ?_
  refine w_none 6 (.s (.s (.s (.s (.s (.s .z)))))) ?_
  refine w_none 7 (.s (.s (.s (.s (.s (.s (.s .z))))))) ?_
  refine w_cut 3 rfl rfl rfl rfl ?_
  exact wkE (by kernel_rfl) (by kernel_rfl)

theorem trans_stepper_stops_meets {a0 : trans_stepper} {r : trans_stepper} (h : trans_stepper_stops a0 = some r) : MeetsS Tryz.prog GG 104 [.c (.box 0 0)] [some (.box true 171 ([.pv (.sl (List.map e_check_Chan a0.f_w.S.Chans)), .pv (.sl (List.map e_flow_Graph a0.f_w.S.Graphs)), .pv (.sl (List.map e_i64 a0.f_w.S.Vars)), .pv (.sl (List.map e_queue_Elem a0.f_w.Elems)), .pv (.sl (List.map e_bool a0.f_w.Deaf)), .pv (.int .i64 a0.f_proc), .pv (.sl (List.map e_i64 a0.f_out)), .pv (.int .i64 a0.f_at), .pv (.int .i64 a0.f_e.From), .pv (.int .i64 a0.f_e.To), .pv (.int .i64 a0.f_e.Kind), .pv (.int .i64 a0.f_e.Var), .pv (.int .i64 a0.f_e.Chan), .pv (.int .i64 a0.f_e.Tag), .pv (.int .i64 a0.f_e.E.Kind), .pv (.int .i64 a0.f_e.E.Num), .pv (.int .i64 a0.f_e.E.Var), .pv (.sl (List.map e_check_Expr a0.f_e.E.Kids)), .pv (.int .i64 a0.f_e.C.Op), .pv (.int .i64 a0.f_e.C.L.Kind), .pv (.int .i64 a0.f_e.C.L.Num), .pv (.int .i64 a0.f_e.C.L.Var), .pv (.sl (List.map e_check_Expr a0.f_e.C.L.Kids)), .pv (.int .i64 a0.f_e.C.R.Kind), .pv (.int .i64 a0.f_e.C.R.Num), .pv (.int .i64 a0.f_e.C.R.Var), .pv (.sl (List.map e_check_Expr a0.f_e.C.R.Kids)), .pv (.bool a0.f_a.N.None), .pv (.sl (List.map e_itv_Itv a0.f_a.N.I)), .pv (.int .i64 a0.f_a.N.Z.N), .pv (.bool a0.f_a.N.Z.None)] ++ (bs (e_T60 a0.f_a.N.Z.D) ++ ([.row 1, .row 2, .pv (.int .i64 a0.f_sent.Chan), .pv (.int .i64 a0.f_sent.Tag), .pv (.int .i64 a0.f_sent.Vals.Lo), .pv (.int .i64 a0.f_sent.Vals.Hi)] ++ bs (e_T169 a0.f_errors))))), some (.row true false 72 2 (List.map e_itv_Itv a0.f_a.Counts)), some (.row true false 161 1 (List.map e_rule_Set a0.f_a.Rules))] [] [some (.box true 171 (bs (e_trans_stepper r))), none, none] := by
  refine meetsW_of (N := 15) r_trans_stepper_stops o_trans_stepper_stops r Tryz.func104 rfl rfl rfl (by dsimp only [argEnv]) rfl ?_
  unfold trans_stepper_stops at h
  refine drawn_ mixed ?_
  refine dl (t := 2) 0 [.c (.box 0 0)] rfl ?_
  refine dl (t := 3) 1 [.c (.box 0 0)] rfl ?_
  refine dl (t := 4) 2 [.c (.box 0 0)] rfl ?_
  refine dl (t := 5) 3 [.c (.box 0 0)] rfl ?_
  refine dl (t := 6) 4 [.c (.box 0 0)] rfl ?_
  refine dl (t := 7) 5 [.agg [.pv (.sl (List.map e_check_Chan a0.f_w.S.Chans)), .pv (.sl (List.map e_flow_Graph a0.f_w.S.Graphs)), .pv (.sl (List.map e_i64 a0.f_w.S.Vars))]] rfl ?_
  refine dl (t := 8) 6 [.c (.box 0 0)] rfl ?_
  refine dl (t := 9) 7 [.c (.box 0 0)] rfl ?_
  refine dl (t := 10) 8 [.c (.box 0 5)] rfl ?_
  refine dl (t := 11) 9 [.c (.pv (.int .i64 a0.f_proc))] rfl ?_
  obtain ⟨v2, k2, h⟩ := bindE h
  refine dl (t := 12) 10 [.agg (bs (e_trans_State v2))] rfl ?_
  refine dl (t := 13) 11 [.c (.box 0 0)] rfl ?_
  refine dl (t := 14) 12 [.c (.box 0 27)] rfl ?_
  obtain ⟨v3, k3, h⟩ := bindE h
  refine d_store (cs' := (bs (e_trans_stepper v3))) (wm [0, 0, 2, 6, 14, 30, 0, 64, 192, 448, 1022, 2047, 4095, 8191]) 13 rfl (by kernel_rfl) (by kernel_rfl) (by kernel_rfl) (by kernel_rfl) (by kernel_rfl) (gi0 rfl) (oE tbok [] 2 (by kernel_rfl) (oL [] rfl (by kernel_rfl) (fl_call rfl Tryz.call42 rfl (by kernel_rfl) (by kernel_rfl) (trans_None_meets k2)) (oE tbok [] 10 (by kernel_rfl) trivial))) rfl rfl ty67 rfl rfl rfl rfl rfl rfl (by rw [← retE k3]; kernel_rfl) (SetAt.eq .z) ?_
  refine d_endS (env2 := []) (wm [0, 0, 2, 6, 14, 30, 0, 64, 192, 448, 1022, 2047, 4095, 8191]) (by kernel_rfl) (by kernel_rfl) (by kernel_rfl) (oN 14 (by kernel_rfl) trivial) sub_nil wW ?_
  obtain rfl := retE h
  refine rwn .nil ?_
  refine w_none 1 (.s .z) ?_
  refine w_none 2 (.s (.s .z)) ?_
  exact wkE (by kernel_rfl) (by kernel_rfl)
end Go.Proofs.YtbebnddalipfhaaGreat.Abs
