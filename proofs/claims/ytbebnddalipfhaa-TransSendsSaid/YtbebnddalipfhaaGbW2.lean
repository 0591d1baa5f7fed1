/- Gb: the walks. -/
import Derived.Test.YtbebnddalipfhaaGbW1
namespace Go.Proofs.Ytbebnddalipfhaa.Abs
open Go Go.RowKit
set_option linter.unusedVariables false
set_option maxRecDepth 100000
set_option maxHeartbeats 4000000
theorem zone_Zone_forget_meets {a0 : zone_Zone} {a1 : Int} {r : zone_Zone} (h : zone_Zone_forget a0 a1 = some r) : MeetsS Try.prog GG 54 [.c (.box 0 0), .c (.pv (.int .i64 a1))] [some (.box true 44 (bs (e_zone_Zone a0)))] [] [some (.box true 44 (bs (e_zone_Zone r)))] := by
  refine meetsW_of (N := 30) r_zone_Zone_forget o_zone_Zone_forget r Try.func54 rfl rfl rfl (by dsimp only [argEnv]) rfl ?_
  unfold zone_Zone_forget at h
  refine seq_ ?_
  refine region_ ?_
  refine R tbok 1 [4, 0, 1] [(4, [.c (.pv (.int .i64 0))]), (0, [.c (.box 0 0)]), (1, [.c (.pv (.int .i64 a1))])] (by kernel_rfl) ?_
  refine ops_nil ?_
  refine then_ ?_
  refine lp_ (Qr := RW Try.prog GG Try.f54 1 r_zone_Zone_forget o_zone_Zone_forget) (zone_Zone_forget_l1 a1) (fun (x1 : (Int × zone_Zone)) => (⟨30, 1, [(0, [.c (.box 0 0)]), (1, [.c (.pv (.int .i64 a1))]), (4, [.c (.pv (.int .i64 x1.1))])], [some (.box true 44 (bs (e_zone_Zone x1.2)))]⟩ : Sx)) (fun (j1 : zone_Zone) => (⟨30, 1, [], [some (.box true 44 (bs (e_zone_Zone j1)))]⟩ : Sx)) (0, a0) RW.only h wW ?_ (fun x1 o h => ?_) (fun r h s' hs => ?_) (fun j1 h => ?_)
  · refine w_sub (env' := [(0, [.c (.box 0 0)]), (1, [.c (.pv (.int .i64 a1))]), (4, [.c (.pv (.int .i64 0))])]) (sub_cons rfl (sub_cons rfl (sub_cons rfl sub_nil))) ?_
    exact wkE (by kernel_rfl) (by kernel_rfl)
  · unfold zone_Zone_forget_l1 at h
    refine seq_ ?_
    refine seq_ ?_
    refine region_ ?_
    refine R tbok 6 [10, 0, 1, 4] [(10, [.c (.pv (.bool (decide (x1.1 ≤ x1.2.N))))]), (0, [.c (.box 0 0)]), (1, [.c (.pv (.int .i64 a1))]), (4, [.c (.pv (.int .i64 x1.1))])] (by kernel_rfl) ?_
    refine ops_nil ?_
    refine then_ ?_
    refine cond_ (b := (decide (x1.1 ≤ x1.2.N))) rfl (fun k1 => ?_) (fun k1 => ?_)
    · have h := iteT h k1
      refine skip_ ?_
      refine then_ ?_
      refine seq_ ?_
      refine jn_ (fun (j2 : zone_Zone) => (⟨30, 1, [(0, [.c (.box 0 0)]), (1, [.c (.pv (.int .i64 a1))]), (4, [.c (.pv (.int .i64 x1.1))])], [some (.box true 44 (bs (e_zone_Zone j2)))]⟩ : Sx)) h wT (fun o h => ?_) (fun j2 h => ?_)
      · refine block_ ?_
        refine seq_ ?_
        refine region_ ?_
        refine R tbok 3 [15, 0, 1, 4] [(15, [.c (.pv (.bool (x1.1 != a1)))]), (0, [.c (.box 0 0)]), (1, [.c (.pv (.int .i64 a1))]), (4, [.c (.pv (.int .i64 x1.1))])] (by kernel_rfl) ?_
        refine ops_nil ?_
        refine then_ ?_
        refine cond_ (b := (x1.1 != a1)) rfl (fun k2 => ?_) (fun k2 => ?_)
        · have h := iteT h k2
          refine drawn_ mixed ?_
          refine dl (t := 16) 0 [.c (.box 0 0)] rfl ?_
          refine dl (t := 17) 1 [.c (.pv (.int .i64 x1.1))] rfl ?_
          refine dl (t := 18) 2 [.c (.pv (.int .i64 a1))] rfl ?_
          refine dl (t := 19) 3 [.c (.box 0 0)] rfl ?_
          refine dl (t := 20) 4 [.c (.pv (.int .i64 a1))] rfl ?_
          refine dl (t := 21) 5 [.c (.pv (.int .i64 x1.1))] rfl ?_
          refine dl (t := 22) 6 [.c (.box 0 0)] rfl ?_
          refine dl (t := 23) 7 [.c (.box 0 2)] rfl ?_
          obtain ⟨v1, k3, h⟩ := bindE h
          refine dl (t := 24) 8 [.c (.box 0 (2 + v1 * 7))] rfl ?_
          obtain ⟨v2, k4, h⟩ := bindE h
          refine dl (t := 25) 9 [.c (.box 0 (2 + v1 * 7 + v2 * 1))] rfl ?_
          refine dl (t := 26) 11 [.c (.box 0 0)] rfl ?_
          refine dl (t := 27) 12 [.c (.box 0 2)] rfl ?_
          obtain ⟨v3, k5, h⟩ := bindE h
          refine dl (t := 28) 13 [.c (.box 0 (2 + v3 * 7))] rfl ?_
          obtain ⟨v4, k6, h⟩ := bindE h
          refine d_storeG (cs' := [.pv (.int .i64 x1.2.N), .pv (.bool x1.2.None), .pv (.int .i64 ((v4 0) 0)), .pv (.int .i64 ((v4 0) 1)), .pv (.int .i64 ((v4 0) 2)), .pv (.int .i64 ((v4 0) 3)), .pv (.int .i64 ((v4 0) 4)), .pv (.int .i64 ((v4 0) 5)), .pv (.int .i64 ((v4 0) 6)), .pv (.int .i64 ((v4 1) 0)), .pv (.int .i64 ((v4 1) 1)), .pv (.int .i64 ((v4 1) 2)), .pv (.int .i64 ((v4 1) 3)), .pv (.int .i64 ((v4 1) 4)), .pv (.int .i64 ((v4 1) 5)), .pv (.int .i64 ((v4 1) 6)), .pv (.int .i64 ((v4 2) 0)), .pv (.int .i64 ((v4 2) 1)), .pv (.int .i64 ((v4 2) 2)), .pv (.int .i64 ((v4 2) 3)), .pv (.int .i64 ((v4 2) 4)), .pv (.int .i64 ((v4 2) 5)), .pv (.int .i64 ((v4 2) 6)), .pv (.int .i64 ((v4 3) 0)), .pv (.int .i64 ((v4 3) 1)), .pv (.int .i64 ((v4 3) 2)), .pv (.int .i64 ((v4 3) 3)), .pv (.int .i64 ((v4 3) 4)), .pv (.int .i64 ((v4 3) 5)), .pv (.int .i64 ((v4 3) 6)), .pv (.int .i64 ((v4 4) 0)), .pv (.int .i64 ((v4 4) 1)), .pv (.int .i64 ((v4 4) 2)), .pv (.int .i64 ((v4 4) 3)), .pv (.int .i64 ((v4 4) 4)), .pv (.int .i64 ((v4 4) 5)), .pv (.int .i64 ((v4 4) 6)), .pv (.int .i64 ((v4 5) 0)), .pv (.int .i64 ((v4 5) 1)), .pv (.int .i64 ((v4 5) 2)), .pv (.int .i64 ((v4 5) 3)), .pv (.int .i64 ((v4 5) 4)), .pv (.int .i64 ((v4 5) 5)), .pv (.int .i64 ((v4 5) 6)), .pv (.int .i64 ((v4 6) 0)), .pv (.int .i64 ((v4 6) 1)), .pv (.int .i64 ((v4 6) 2)), .pv (.int .i64 ((v4 6) 3)), .pv (.int .i64 ((v4 6) 4)), .pv (.int .i64 ((v4 6) 5)), .pv (.int .i64 ((v4 6) 6))]) (wm [0, 0, 0, 0, 0, 0, 1, 65, 195, 455, 967, 8, 2056, 6168, 16383, 32767]) 10 rfl (by kernel_rfl) (by kernel_rfl) (by kernel_rfl) (by kernel_rfl) (by kernel_rfl) (gi0 rfl) (oL [] rfl (by kernel_rfl) (fl_lt (ia_boxD rfl u42 ty41 rfl rfl k5)) (oE tbok [] 2 (by kernel_rfl) (oL [] rfl (by kernel_rfl) (fl_lt (ia_boxD rfl u41 ty3 rfl rfl k4)) (oL [] rfl (by kernel_rfl) (fl_lt (ia_boxD rfl u42 ty41 rfl rfl k3)) (oE tbok [] 8 (by kernel_rfl) trivial))))) rfl rfl ty3 rfl rfl rfl rfl rfl (fit2 (e := (PV.int .i64)) (D2 := x1.2.D) (pre := [.int .i64 x1.2.N, .bool x1.2.None]) (post := []) (n1 := 7) (n2 := 7) (by kernel_rfl) (inA_lt k3) (inA_lt k4)) (put2 (e := (PV.int .i64)) (D2 := x1.2.D) (pre := [.int .i64 x1.2.N, .bool x1.2.None]) (post := []) (n1 := 7) (n2 := 7) (by kernel_rfl) (inA_lt k3) (inA_lt k4) (retE k6) (by kernel_rfl)) (SetAt.eq .z) ?_
          obtain ⟨v5, k7, h⟩ := bindE h
          refine dl (t := 29) 14 [.c (.box 0 (2 + v3 * 7 + v5 * 1))] rfl ?_
          obtain ⟨v6, k8, h⟩ := bindE h
          refine d_storeG (cs' := [.pv (.int .i64 x1.2.N), .pv (.bool x1.2.None), .pv (.int .i64 ((v6 0) 0)), .pv (.int .i64 ((v6 0) 1)), .pv (.int .i64 ((v6 0) 2)), .pv (.int .i64 ((v6 0) 3)), .pv (.int .i64 ((v6 0) 4)), .pv (.int .i64 ((v6 0) 5)), .pv (.int .i64 ((v6 0) 6)), .pv (.int .i64 ((v6 1) 0)), .pv (.int .i64 ((v6 1) 1)), .pv (.int .i64 ((v6 1) 2)), .pv (.int .i64 ((v6 1) 3)), .pv (.int .i64 ((v6 1) 4)), .pv (.int .i64 ((v6 1) 5)), .pv (.int .i64 ((v6 1) 6)), .pv (.int .i64 ((v6 2) 0)), .pv (.int .i64 ((v6 2) 1)), .pv (.int .i64 ((v6 2) 2)), .pv (.int .i64 ((v6 2) 3)), .pv (.int .i64 ((v6 2) 4)), .pv (.int .i64 ((v6 2) 5)), .pv (.int .i64 ((v6 2) 6)), .pv (.int .i64 ((v6 3) 0)), .pv (.int .i64 ((v6 3) 1)), .pv (.int .i64 ((v6 3) 2)), .pv (.int .i64 ((v6 3) 3)), .pv (.int .i64 ((v6 3) 4)), .pv (.int .i64 ((v6 3) 5)), .pv (.int .i64 ((v6 3) 6)), .pv (.int .i64 ((v6 4) 0)), .pv (.int .i64 ((v6 4) 1)), .pv (.int .i64 ((v6 4) 2)), .pv (.int .i64 ((v6 4) 3)), .pv (.int .i64 ((v6 4) 4)), .pv (.int .i64 ((v6 4) 5)), .pv (.int .i64 ((v6 4) 6)), .pv (.int .i64 ((v6 5) 0)), .pv (.int .i64 ((v6 5) 1)), .pv (.int .i64 ((v6 5) 2)), .pv (.int .i64 ((v6 5) 3)), .pv (.int .i64 ((v6 5) 4)), .pv (.int .i64 ((v6 5) 5)), .pv (.int .i64 ((v6 5) 6)), .pv (.int .i64 ((v6 6) 0)), .pv (.int .i64 ((v6 6) 1)), .pv (.int .i64 ((v6 6) 2)), .pv (.int .i64 ((v6 6) 3)), .pv (.int .i64 ((v6 6) 4)), .pv (.int .i64 ((v6 6) 5)), .pv (.int .i64 ((v6 6) 6))]) (wm [0, 0, 0, 0, 0, 0, 1, 65, 195, 455, 967, 8, 2056, 6168, 16383, 32767]) 15 rfl (by kernel_rfl) (by kernel_rfl) (by kernel_rfl) (by kernel_rfl) (by kernel_rfl) (gi0 rfl) (oL [] rfl (by kernel_rfl) (fl_lt (ia_boxD rfl u41 ty3 rfl rfl k7)) (oN 1 (by kernel_rfl) (oL [] rfl (by kernel_rfl) (fl_lt (ia_boxD rfl u42 ty41 rfl rfl k5)) (oE tbok [] 2 (by kernel_rfl) (oN 4 (by kernel_rfl) (oE tbok [] 3 (by kernel_rfl) (oN 3 (by kernel_rfl) trivial))))))) rfl rfl ty3 rfl rfl rfl rfl rfl (fit2 (e := (PV.int .i64)) (D2 := v4) (pre := [.int .i64 x1.2.N, .bool x1.2.None]) (post := []) (n1 := 7) (n2 := 7) (by kernel_rfl) (inA_lt k5) (inA_lt k7)) (put2 (e := (PV.int .i64)) (D2 := v4) (pre := [.int .i64 x1.2.N, .bool x1.2.None]) (post := []) (n1 := 7) (n2 := 7) (by kernel_rfl) (inA_lt k5) (inA_lt k7) (retE k8) (by kernel_rfl)) (SetAt.eq .z) ?_
          refine d_endS (env2 := [(0, [.c (.box 0 0)]), (1, [.c (.pv (.int .i64 a1))]), (4, [.c (.pv (.int .i64 x1.1))])]) (wm [0, 0, 0, 0, 0, 0, 1, 65, 195, 455, 967, 8, 2056, 6168, 16383, 32767]) (by kernel_rfl) (by kernel_rfl) (by kernel_rfl) (oN 16 (by kernel_rfl) trivial) (sub_cons rfl (sub_cons rfl (sub_cons rfl sub_nil))) (wB wM) ?_
          refine bN ?_
          obtain rfl := retE h
          refine mN ?_
          exact wkE (by kernel_rfl) (by kernel_rfl)
        · have h := iteF h k2
          refine skip_ ?_
          refine bN ?_
          obtain rfl := retE h
          refine mN ?_
          refine w_sub (env' := [(0, [.c (.box 0 0)]), (1, [.c (.pv (.int .i64 a1))]), (4, [.c (.pv (.int .i64 x1.1))])]) (sub_cons rfl (sub_cons rfl (sub_cons rfl sub_nil))) ?_
          exact wkE (by kernel_rfl) (by kernel_rfl)
      · refine then_ ?_
        refine region_ ?_
        refine R tbok 3 [4, 0, 1] [(4, [.c (.pv (.int .i64 (IntKind.i64.wrap (x1.1 + 1))))]), (0, [.c (.box 0 0)]), (1, [.c (.pv (.int .i64 a1))])] (by kernel_rfl) ?_
        refine ops_nil ?_
        obtain rfl := retE h
        refine lN ?_
        refine w_sub (env' := [(0, [.c (.box 0 0)]), (1, [.c (.pv (.int .i64 a1))]), (4, [.c (.pv (.int .i64 (IntKind.i64.wrap (x1.1 + 1))))])]) (sub_cons rfl (sub_cons rfl (sub_cons rfl sub_nil))) ?_
        exact wkE (by kernel_rfl) (by kernel_rfl)
    · have h := iteF h k1
      refine exit_ ?_
      refine tX ?_
      obtain rfl := retE h
      refine lX ?_
      refine w_sub (env' := []) sub_nil ?_
      exact wkE (by kernel_rfl) (by kernel_rfl)
  · cases h
  · have h := elimR h
    obtain rfl := retE h
    refine rwn .nil ?_
    exact wkE (by kernel_rfl) (by kernel_rfl)

theorem zone_Copy_meets {a0 : zone_Zone} {a1 : Int} {a2 : Int} {a3 : Int} {r : zone_Zone} (h : zone_Copy a0 a1 a2 a3 = some r) : MeetsV Try.prog GG 88 [.agg (bs (e_zone_Zone a0)), .c (.pv (.int .i64 a1)), .c (.pv (.int .i64 a2)), .c (.pv (.int .i64 a3))] [.agg (bs (e_zone_Zone r))] := by
  refine MeetsS.toV (meetsW_of (st0 := []) (N := 55) r_zone_Copy o_zone_Copy r Try.func88 rfl rfl rfl (by dsimp only [argEnv]) rfl ?_) rfl
  unfold zone_Copy at h
  refine seq_ ?_
  refine region_ ?_
  refine B rfl rfl (bir_box rfl rfl rfl) rfl rfl .z ?_
  refine B rfl rfl (bir_alloc rfl z44 rfl rfl) rfl rfl (.s .z) ?_
  refine ops_nil ?_
  refine then_ ?_
  refine seq_ ?_
  refine seq_ ?_
  refine jn_ (fun (j1 : Bool) => (⟨55, 0, [(1, [.c (.pv (.int .i64 a1))]), (2, [.c (.pv (.int .i64 a2))]), (3, [.c (.pv (.int .i64 a3))]), (4, [.c (.box 0 0)]), (8, [.c (.box 1 0)]), (18, [.c (.pv (.bool j1))])], [some (.box true 44 (bs (e_zone_Zone a0))), some (.box true 44 (bs (e_zone_Zone (zone_Zone.mk 0 false (arr (arr 0 []) [(arr 0 [0, 0, 0, 0, 0, 0, 0]), (arr 0 [0, 0, 0, 0, 0, 0, 0]), (arr 0 [0, 0, 0, 0, 0, 0, 0]), (arr 0 [0, 0, 0, 0, 0, 0, 0]), (arr 0 [0, 0, 0, 0, 0, 0, 0]), (arr 0 [0, 0, 0, 0, 0, 0, 0]), (arr 0 [0, 0, 0, 0, 0, 0, 0])])))))]⟩ : Sx)) h wT (fun o h => ?_) (fun j1 h => ?_)
  · refine region_ ?_
    refine R tbok 2 [10, 9, 8, 4, 1, 2, 3] [(10, [.c (.pv (.int .i64 a1))]), (9, [.agg (bs (e_zone_Zone a0))]), (8, [.c (.box 1 0)]), (4, [.c (.box 0 0)]), (1, [.c (.pv (.int .i64 a1))]), (2, [.c (.pv (.int .i64 a2))]), (3, [.c (.pv (.int .i64 a3))])] (by kernel_rfl) ?_
    obtain ⟨v1, k1, h⟩ := bindE h
    refine C rfl rfl (fl_call rfl Try.call53 rfl (by kernel_rfl) (by kernel_rfl) (zone_variable_meets k1)) rfl ?_
    refine R tbok 2 [13, 8, 4, 1, 2, 3] [(13, [.c (.pv (.bool (!v1)))]), (8, [.c (.box 1 0)]), (4, [.c (.box 0 0)]), (1, [.c (.pv (.int .i64 a1))]), (2, [.c (.pv (.int .i64 a2))]), (3, [.c (.pv (.int .i64 a3))])] (by kernel_rfl) ?_
    refine (tf (!v1)).elim (fun k2 => ?_) (fun k2 => ?_)
    · have h := iteT h k2
      refine Ls0 rfl rfl rfl k2 rfl rfl ?_
      refine Ls0 rfl rfl rfl k2 rfl rfl ?_
      refine Ls0 rfl rfl rfl k2 rfl rfl ?_
      refine Ls0 rfl rfl rfl k2 rfl rfl ?_
      refine L rfl rfl (lt_pickT rfl rfl k2 rfl) rfl ?_
      refine ops_nil ?_
      obtain rfl := retE h
      refine mN ?_
      refine w_sub (env' := [(1, [.c (.pv (.int .i64 a1))]), (2, [.c (.pv (.int .i64 a2))]), (3, [.c (.pv (.int .i64 a3))]), (4, [.c (.box 0 0)]), (8, [.c (.box 1 0)]), (18, [.c (.pv (.bool true))])]) (sub_cons rfl (sub_cons rfl (sub_cons rfl (sub_cons rfl (sub_cons rfl (sub_cons rfl sub_nil)))))) ?_
      exact wkE (by kernel_rfl) (by kernel_rfl)
    · have h := iteF h k2
      refine Lg rfl rfl rfl k2 rfl (lt_load_boxA (ys := (bs (e_zone_Zone a0))) rfl ty44 rfl rfl (by kernel_rfl) (by kernel_rfl)) rfl ?_
      refine Lg rfl rfl rfl k2 rfl (lt_move rfl rfl) rfl ?_
      obtain ⟨v2, k3, h⟩ := bindE h
      refine Hg rfl rfl rfl k2 rfl rfl (op_fl rfl rfl (fl_call rfl Try.call70 rfl (by kernel_rfl) (by kernel_rfl) (zone_orNought_meets k3)) ?_)
      refine Lg rfl rfl rfl k2 rfl (lt_not rfl rfl) rfl ?_
      refine L rfl rfl (lt_pickF rfl rfl k2 rfl) rfl ?_
      refine ops_nil ?_
      obtain rfl := retE h
      refine mN ?_
      refine w_sub (env' := [(1, [.c (.pv (.int .i64 a1))]), (2, [.c (.pv (.int .i64 a2))]), (3, [.c (.pv (.int .i64 a3))]), (4, [.c (.box 0 0)]), (8, [.c (.box 1 0)]), (18, [.c (.pv (.bool (!v2)))])]) (sub_cons rfl (sub_cons rfl (sub_cons rfl (sub_cons rfl (sub_cons rfl (sub_cons rfl sub_nil)))))) ?_
      exact wkE (by kernel_rfl) (by kernel_rfl)
  · refine then_ ?_
    refine cond_ (b := j1) rfl (fun k4 => ?_) (fun k4 => ?_)
    · have h := iteT h k4
      refine seq_ ?_
      refine region_ ?_
      refine R tbok 1 [19, 1, 2, 3, 4, 8] [(19, [.agg (bs (e_zone_Zone a0))]), (1, [.c (.pv (.int .i64 a1))]), (2, [.c (.pv (.int .i64 a2))]), (3, [.c (.pv (.int .i64 a3))]), (4, [.c (.box 0 0)]), (8, [.c (.box 1 0)])] (by kernel_rfl) ?_
      refine S rfl rfl rfl ty44 (by decide) rfl rfl rfl rfl rfl (.all rfl) (.s .z) ?_
      refine ops_nil ?_
      refine then_ ?_
      refine ret_ ?_
      obtain rfl := retE h
      refine tR (rwr (rw_ (.cellA (ys := (bs (e_zone_Zone a0))) ty44 rfl rfl (by kernel_rfl) (by kernel_rfl) .nil) ?_))
      refine w_none 0 .z ?_
      refine w_none 1 (.s .z) ?_
      refine w_cut 0 rfl rfl rfl rfl ?_
      exact wkE (by kernel_rfl) (by kernel_rfl)
    · have h := iteF h k4
      refine skip_ ?_
      refine then_ ?_
      refine seq_ ?_
      refine region_ ?_
      refine R tbok 1 [20, 1, 2, 3, 4, 8] [(20, [.c (.pv (.int .i64 a3))]), (1, [.c (.pv (.int .i64 a1))]), (2, [.c (.pv (.int .i64 a2))]), (3, [.c (.pv (.int .i64 a3))]), (4, [.c (.box 0 0)]), (8, [.c (.box 1 0)])] (by kernel_rfl) ?_
      refine L rfl rfl (lt_max2 rfl rfl rfl) rfl ?_
      refine L rfl rfl (lt_min2 rfl rfl rfl) rfl ?_
      refine R tbok 1 [3, 1, 2, 4, 8] [(3, [.c (.pv (.int .i64 (min (max a3 (-1099511627776)) 1099511627776)))]), (1, [.c (.pv (.int .i64 a1))]), (2, [.c (.pv (.int .i64 a2))]), (4, [.c (.box 0 0)]), (8, [.c (.box 1 0)])] (by kernel_rfl) ?_
      refine ops_nil ?_
      refine then_ ?_
      refine seq_ ?_
      refine seq_ ?_
      refine region_ ?_
      refine R tbok 3 [25, 3, 1, 2, 4, 8] [(25, [.c (.pv (.bool (a1 == a2)))]), (3, [.c (.pv (.int .i64 (min (max a3 (-1099511627776)) 1099511627776)))]), (1, [.c (.pv (.int .i64 a1))]), (2, [.c (.pv (.int .i64 a2))]), (4, [.c (.box 0 0)]), (8, [.c (.box 1 0)])] (by kernel_rfl) ?_
      refine ops_nil ?_
      refine then_ ?_
      refine cond_ (b := (a1 == a2)) rfl (fun k5 => ?_) (fun k5 => ?_)
      · have h := iteT h k5
        refine seq_ ?_
        refine region_ ?_
        refine R tbok 4 [29, 28, 26, 3, 1, 2, 4, 8] [(29, [.c (.pv (.int .i64 (min (max a3 (-1099511627776)) 1099511627776)))]), (28, [.c (.pv (.int .i64 (IntKind.i64.wrap (a1 + 1))))]), (26, [.agg (bs (e_zone_Zone a0))]), (3, [.c (.pv (.int .i64 (min (max a3 (-1099511627776)) 1099511627776)))]), (1, [.c (.pv (.int .i64 a1))]), (2, [.c (.pv (.int .i64 a2))]), (4, [.c (.box 0 0)]), (8, [.c (.box 1 0)])] (by kernel_rfl) ?_
        obtain ⟨v3, k6, h⟩ := bindE h
        refine C rfl rfl (fl_call rfl Try.call98 rfl (by kernel_rfl) (by kernel_rfl) (zone_moved_meets k6)) rfl ?_
        refine S rfl rfl rfl ty44 (by decide) rfl rfl rfl rfl rfl (.all rfl) (.s .z) ?_
        refine ops_nil ?_
        refine then_ ?_
        refine ret_ ?_
        obtain rfl := retE h
        refine tR (rwr (rw_ (.cellA (ys := (bs (e_zone_Zone v3))) ty44 rfl rfl (by kernel_rfl) (by kernel_rfl) .nil) ?_))
        refine w_none 0 .z ?_
        refine w_none 1 (.s .z) ?_
        refine w_cut 0 rfl rfl rfl rfl ?_
        exact wkE (by kernel_rfl) (by kernel_rfl)
      · have h := iteF h k5
        refine skip_ ?_
        refine then_ ?_
        refine seq_ ?_
        refine region_ ?_
        refine R tbok 2 [32, 3, 1, 2, 4, 8] [(32, [.c (.pv (.int .i64 (IntKind.i64.wrap (a1 + 1))))]), (3, [.c (.pv (.int .i64 (min (max a3 (-1099511627776)) 1099511627776)))]), (1, [.c (.pv (.int .i64 a1))]), (2, [.c (.pv (.int .i64 a2))]), (4, [.c (.box 0 0)]), (8, [.c (.box 1 0)])] (by kernel_rfl) ?_
        obtain ⟨v4, k7, h⟩ := bindE h
        refine callS (env' := [(32, [.c (.pv (.int .i64 (IntKind.i64.wrap (a1 + 1))))]), (3, [.c (.pv (.int .i64 (min (max a3 (-1099511627776)) 1099511627776)))]), (1, [.c (.pv (.int .i64 a1))]), (2, [.c (.pv (.int .i64 a2))]), (4, [.c (.box 0 0)]), (8, [.c (.box 1 0)])]) (argsX' := []) (st' := [some (.box true 44 (bs (e_zone_Zone v4))), some (.box true 44 (bs (e_zone_Zone (zone_Zone.mk 0 false (arr (arr 0 []) [(arr 0 [0, 0, 0, 0, 0, 0, 0]), (arr 0 [0, 0, 0, 0, 0, 0, 0]), (arr 0 [0, 0, 0, 0, 0, 0, 0]), (arr 0 [0, 0, 0, 0, 0, 0, 0]), (arr 0 [0, 0, 0, 0, 0, 0, 0]), (arr 0 [0, 0, 0, 0, 0, 0, 0]), (arr 0 [0, 0, 0, 0, 0, 0, 0])])))))]) [0] [] rfl rfl rfl rfl Try.call54 rfl rfl (by kernel_rfl) (by kernel_rfl) (zone_Zone_forget_meets k7) (by kernel_rfl) (by kernel_rfl) (by kernel_rfl) ?_
        refine ops_nil ?_
        refine then_ ?_
        refine seq_ ?_
        refine region_ ?_
        refine R tbok 1 [34, 3, 1, 2, 4, 8] [(34, [.agg (bs (e_zone_Zone v4))]), (3, [.c (.pv (.int .i64 (min (max a3 (-1099511627776)) 1099511627776)))]), (1, [.c (.pv (.int .i64 a1))]), (2, [.c (.pv (.int .i64 a2))]), (4, [.c (.box 0 0)]), (8, [.c (.box 1 0)])] (by kernel_rfl) ?_
        obtain ⟨v5, k8, h⟩ := bindE h
        refine C rfl rfl (fl_call rfl Try.call55 rfl (by kernel_rfl) (by kernel_rfl) (zone_Zone_close_meets k8)) rfl ?_
        refine S rfl rfl rfl ty44 (by decide) rfl rfl rfl rfl rfl (.all rfl) .z ?_
        refine ops_nil ?_
        refine then_ ?_
        refine seq_ ?_
        refine drawn_ mixed ?_
        refine dl (t := 36) 0 [.c (.pv (.int .i64 a1))] rfl ?_
        refine dl (t := 37) 1 [.c (.pv (.int .i64 (IntKind.i64.wrap (a1 + 1))))] rfl ?_
        refine dl (t := 38) 2 [.c (.pv (.int .i64 a2))] rfl ?_
        refine dl (t := 39) 3 [.c (.pv (.int .i64 (IntKind.i64.wrap (a2 + 1))))] rfl ?_
        refine dl (t := 40) 4 [.c (.pv (.int .i64 a2))] rfl ?_
        refine dl (t := 41) 5 [.c (.pv (.int .i64 (IntKind.i64.wrap (a2 + 1))))] rfl ?_
        refine dl (t := 42) 6 [.c (.pv (.int .i64 a1))] rfl ?_
        refine dl (t := 43) 7 [.c (.pv (.int .i64 (IntKind.i64.wrap (a1 + 1))))] rfl ?_
        refine dl (t := 44) 8 [.c (.pv (.int .i64 (min (max a3 (-1099511627776)) 1099511627776)))] rfl ?_
        refine dl (t := 45) 9 [.c (.pv (.int .i64 (min (max a3 (-1099511627776)) 1099511627776)))] rfl ?_
        refine dl (t := 46) 10 [.c (.pv (.int .i64 (IntKind.i64.wrap (0 - (min (max a3 (-1099511627776)) 1099511627776)))))] rfl ?_
        refine dl (t := 47) 11 [.c (.box 0 2)] rfl ?_
        obtain ⟨v6, k9, h⟩ := bindE h
        refine dl (t := 48) 12 [.c (.box 0 (2 + v6 * 7))] rfl ?_
        obtain ⟨v7, k10, h⟩ := bindE h
        refine dl (t := 49) 13 [.c (.box 0 (2 + v6 * 7 + v7 * 1))] rfl ?_
        refine dl (t := 50) 15 [.c (.box 0 2)] rfl ?_
        obtain ⟨v8, k11, h⟩ := bindE h
        refine dl (t := 51) 16 [.c (.box 0 (2 + v8 * 7))] rfl ?_
        obtain ⟨v9, k12, h⟩ := bindE h
        refine d_storeG (cs' := [.pv (.int .i64 v5.N), .pv (.bool v5.None), .pv (.int .i64 ((v9 0) 0)), .pv (.int .i64 ((v9 0) 1)), .pv (.int .i64 ((v9 0) 2)), .pv (.int .i64 ((v9 0) 3)), .pv (.int .i64 ((v9 0) 4)), .pv (.int .i64 ((v9 0) 5)), .pv (.int .i64 ((v9 0) 6)), .pv (.int .i64 ((v9 1) 0)), .pv (.int .i64 ((v9 1) 1)), .pv (.int .i64 ((v9 1) 2)), .pv (.int .i64 ((v9 1) 3)), .pv (.int .i64 ((v9 1) 4)), .pv (.int .i64 ((v9 1) 5)), .pv (.int .i64 ((v9 1) 6)), .pv (.int .i64 ((v9 2) 0)), .pv (.int .i64 ((v9 2) 1)), .pv (.int .i64 ((v9 2) 2)), .pv (.int .i64 ((v9 2) 3)), .pv (.int .i64 ((v9 2) 4)), .pv (.int .i64 ((v9 2) 5)), .pv (.int .i64 ((v9 2) 6)), .pv (.int .i64 ((v9 3) 0)), .pv (.int .i64 ((v9 3) 1)), .pv (.int .i64 ((v9 3) 2)), .pv (.int .i64 ((v9 3) 3)), .pv (.int .i64 ((v9 3) 4)), .pv (.int .i64 ((v9 3) 5)), .pv (.int .i64 ((v9 3) 6)), .pv (.int .i64 ((v9 4) 0)), .pv (.int .i64 ((v9 4) 1)), .pv (.int .i64 ((v9 4) 2)), .pv (.int .i64 ((v9 4) 3)), .pv (.int .i64 ((v9 4) 4)), .pv (.int .i64 ((v9 4) 5)), .pv (.int .i64 ((v9 4) 6)), .pv (.int .i64 ((v9 5) 0)), .pv (.int .i64 ((v9 5) 1)), .pv (.int .i64 ((v9 5) 2)), .pv (.int .i64 ((v9 5) 3)), .pv (.int .i64 ((v9 5) 4)), .pv (.int .i64 ((v9 5) 5)), .pv (.int .i64 ((v9 5) 6)), .pv (.int .i64 ((v9 6) 0)), .pv (.int .i64 ((v9 6) 1)), .pv (.int .i64 ((v9 6) 2)), .pv (.int .i64 ((v9 6) 3)), .pv (.int .i64 ((v9 6) 4)), .pv (.int .i64 ((v9 6) 5)), .pv (.int .i64 ((v9 6) 6))]) (wm [0, 1, 0, 4, 0, 16, 0, 64, 0, 0, 512, 0, 2051, 6415, 14607, 0, 32816, 131071, 262143]) 14 rfl (by kernel_rfl) (by kernel_rfl) (by kernel_rfl) (by kernel_rfl) (by kernel_rfl) (gi0 rfl) (oL [] rfl (by kernel_rfl) (fl_lt (ia_boxD rfl u42 ty41 rfl rfl k11)) (oE tbok [] 1 (by kernel_rfl) (oL [] rfl (by kernel_rfl) (fl_lt (ia_boxD rfl u41 ty3 rfl rfl k10)) (oL [] rfl (by kernel_rfl) (fl_lt (ia_boxD rfl u42 ty41 rfl rfl k9)) (oE tbok [] 12 (by kernel_rfl) trivial))))) rfl rfl ty3 rfl rfl rfl rfl rfl (fit2 (e := (PV.int .i64)) (D2 := v5.D) (pre := [.int .i64 v5.N, .bool v5.None]) (post := []) (n1 := 7) (n2 := 7) (by kernel_rfl) (inA_lt k9) (inA_lt k10)) (put2 (e := (PV.int .i64)) (D2 := v5.D) (pre := [.int .i64 v5.N, .bool v5.None]) (post := []) (n1 := 7) (n2 := 7) (by kernel_rfl) (inA_lt k9) (inA_lt k10) (retE k12) (by kernel_rfl)) (SetAt.eq .z) ?_
        obtain ⟨v10, k13, h⟩ := bindE h
        refine dl (t := 52) 17 [.c (.box 0 (2 + v8 * 7 + v10 * 1))] rfl ?_
        obtain ⟨v11, k14, h⟩ := bindE h
        refine d_storeG (cs' := [.pv (.int .i64 v5.N), .pv (.bool v5.None), .pv (.int .i64 ((v11 0) 0)), .pv (.int .i64 ((v11 0) 1)), .pv (.int .i64 ((v11 0) 2)), .pv (.int .i64 ((v11 0) 3)), .pv (.int .i64 ((v11 0) 4)), .pv (.int .i64 ((v11 0) 5)), .pv (.int .i64 ((v11 0) 6)), .pv (.int .i64 ((v11 1) 0)), .pv (.int .i64 ((v11 1) 1)), .pv (.int .i64 ((v11 1) 2)), .pv (.int .i64 ((v11 1) 3)), .pv (.int .i64 ((v11 1) 4)), .pv (.int .i64 ((v11 1) 5)), .pv (.int .i64 ((v11 1) 6)), .pv (.int .i64 ((v11 2) 0)), .pv (.int .i64 ((v11 2) 1)), .pv (.int .i64 ((v11 2) 2)), .pv (.int .i64 ((v11 2) 3)), .pv (.int .i64 ((v11 2) 4)), .pv (.int .i64 ((v11 2) 5)), .pv (.int .i64 ((v11 2) 6)), .pv (.int .i64 ((v11 3) 0)), .pv (.int .i64 ((v11 3) 1)), .pv (.int .i64 ((v11 3) 2)), .pv (.int .i64 ((v11 3) 3)), .pv (.int .i64 ((v11 3) 4)), .pv (.int .i64 ((v11 3) 5)), .pv (.int .i64 ((v11 3) 6)), .pv (.int .i64 ((v11 4) 0)), .pv (.int .i64 ((v11 4) 1)), .pv (.int .i64 ((v11 4) 2)), .pv (.int .i64 ((v11 4) 3)), .pv (.int .i64 ((v11 4) 4)), .pv (.int .i64 ((v11 4) 5)), .pv (.int .i64 ((v11 4) 6)), .pv (.int .i64 ((v11 5) 0)), .pv (.int .i64 ((v11 5) 1)), .pv (.int .i64 ((v11 5) 2)), .pv (.int .i64 ((v11 5) 3)), .pv (.int .i64 ((v11 5) 4)), .pv (.int .i64 ((v11 5) 5)), .pv (.int .i64 ((v11 5) 6)), .pv (.int .i64 ((v11 6) 0)), .pv (.int .i64 ((v11 6) 1)), .pv (.int .i64 ((v11 6) 2)), .pv (.int .i64 ((v11 6) 3)), .pv (.int .i64 ((v11 6) 4)), .pv (.int .i64 ((v11 6) 5)), .pv (.int .i64 ((v11 6) 6))]) (wm [0, 1, 0, 4, 0, 16, 0, 64, 0, 0, 512, 0, 2051, 6415, 14607, 0, 32816, 131071, 262143]) 18 rfl (by kernel_rfl) (by kernel_rfl) (by kernel_rfl) (by kernel_rfl) (by kernel_rfl) (gi0 rfl) (oL [] rfl (by kernel_rfl) (fl_lt (ia_boxD rfl u41 ty3 rfl rfl k13)) (oN 1 (by kernel_rfl) (oL [] rfl (by kernel_rfl) (fl_lt (ia_boxD rfl u42 ty41 rfl rfl k11)) (oE tbok [] 1 (by kernel_rfl) (oN 3 (by kernel_rfl) (oE tbok [] 2 (by kernel_rfl) (oN 1 (by kernel_rfl) (oE tbok [] 4 (by kernel_rfl) (oN 4 (by kernel_rfl) trivial))))))))) rfl rfl ty3 rfl rfl rfl rfl rfl (fit2 (e := (PV.int .i64)) (D2 := v9) (pre := [.int .i64 v5.N, .bool v5.None]) (post := []) (n1 := 7) (n2 := 7) (by kernel_rfl) (inA_lt k11) (inA_lt k13)) (put2 (e := (PV.int .i64)) (D2 := v9) (pre := [.int .i64 v5.N, .bool v5.None]) (post := []) (n1 := 7) (n2 := 7) (by kernel_rfl) (inA_lt k11) (inA_lt k13) (retE k14) (by kernel_rfl)) (SetAt.eq .z) ?_
        refine d_endS (env2 := [(4, [.c (.box 0 0)]), (8, [.c (.box 1 0)])]) (wm [0, 1, 0, 4, 0, 16, 0, 64, 0, 0, 512, 0, 2051, 6415, 14607, 0, 32816, 131071, 262143]) (by kernel_rfl) (by kernel_rfl) (by kernel_rfl) (oN 19 (by kernel_rfl) trivial) (sub_cons rfl (sub_cons rfl sub_nil)) wT ?_
        refine then_ ?_
        refine seq_ ?_
        refine region_ ?_
        refine R tbok 1 [53, 8] [(53, [.agg (bs (e_zone_Zone (zone_Zone.mk v5.N v5.None v11)))]), (8, [.c (.box 1 0)])] (by kernel_rfl) ?_
        obtain ⟨v12, k15, h⟩ := bindE h
        refine C rfl rfl (fl_call rfl Try.call55 rfl (by kernel_rfl) (by kernel_rfl) (zone_Zone_close_meets k15)) rfl ?_
        refine S rfl rfl rfl ty44 (by decide) rfl rfl rfl rfl rfl (.all rfl) (.s .z) ?_
        refine ops_nil ?_
        refine then_ ?_
        refine ret_ ?_
        obtain rfl := retE h
        refine rwr (rw_ (.cellA (ys := (bs (e_zone_Zone v12))) ty44 rfl rfl (by kernel_rfl) (by kernel_rfl) .nil) ?_)
        refine w_none 0 .z ?_
        refine w_none 1 (.s .z) ?_
        refine w_cut 0 rfl rfl rfl rfl ?_
        exact wkE (by kernel_rfl) (by kernel_rfl)

theorem num_Copy_meets {a0 : num_Num} {a1 : Int} {a2 : Int} {a3 : Int} {r : num_Num} (h : num_Copy a0 a1 a2 a3 = some r) : MeetsV Try.prog GG 75 [.agg (bs (e_num_Num a0)), .c (.pv (.int .i64 a1)), .c (.pv (.int .i64 a2)), .c (.pv (.int .i64 a3))] [.agg (bs (e_num_Num r))] := by
  refine MeetsS.toV (meetsW_of (st0 := []) (N := 16) r_num_Copy o_num_Copy r Try.func75 rfl rfl rfl (by dsimp only [argEnv]) rfl ?_) rfl
  unfold num_Copy at h
  refine seq_ ?_
  refine region_ ?_
  refine B rfl rfl (bir_box rfl rfl rfl) rfl rfl .z ?_
  refine B rfl rfl (bir_alloc rfl z46 rfl rfl) rfl rfl (.s .z) ?_
  refine ops_nil ?_
  refine then_ ?_
  refine seq_ ?_
  refine region_ ?_
  refine R tbok 5 [13, 12, 11, 10, 8] [(13, [.c (.pv (.int .i64 a3))]), (12, [.c (.pv (.int .i64 a2))]), (11, [.c (.pv (.int .i64 a1))]), (10, [.agg (bs (e_zone_Zone a0.Z))]), (8, [.c (.box 1 0)])] (by kernel_rfl) ?_
  obtain ⟨v1, k1, h⟩ := bindE h
  refine C rfl rfl (fl_call rfl Try.call88 rfl (by kernel_rfl) (by kernel_rfl) (zone_Copy_meets k1)) rfl ?_
  obtain ⟨v2, k2, h⟩ := bindE h
  refine C rfl rfl (fl_call rfl Try.call34 rfl (by kernel_rfl) (by kernel_rfl) (num_of_meets k2)) rfl ?_
  refine S rfl rfl rfl ty46 (by decide) rfl rfl rfl rfl rfl (.all rfl) (.s .z) ?_
  refine ops_nil ?_
  refine then_ ?_
  refine ret_ ?_
  obtain rfl := retE h
  refine rwr (rw_ (.cellA (ys := (bs (e_num_Num v2))) ty46 rfl rfl (by kernel_rfl) (by kernel_rfl) .nil) ?_)
  refine w_none 0 .z ?_
  refine w_none 1 (.s .z) ?_
  refine w_cut 0 rfl rfl rfl rfl ?_
  exact wkE (by kernel_rfl) (by kernel_rfl)

theorem zone_Bound_meets {a0 : zone_Zone} {a1 : Int} {a2 : Int} {a3 : Int} {r : zone_Zone} (h : zone_Bound a0 a1 a2 a3 = some r) : MeetsV Try.prog GG 52 [.agg (bs (e_zone_Zone a0)), .c (.pv (.int .i64 a1)), .c (.pv (.int .i64 a2)), .c (.pv (.int .i64 a3))] [.agg (bs (e_zone_Zone r))] := by
  refine MeetsS.toV (meetsW_of (st0 := []) (N := 40) r_zone_Bound o_zone_Bound r Try.func52 rfl rfl rfl (by dsimp only [argEnv]) rfl ?_) rfl
  unfold zone_Bound at h
  refine seq_ ?_
  refine region_ ?_
  refine B rfl rfl (bir_box rfl rfl rfl) rfl rfl .z ?_
  refine B rfl rfl (bir_alloc rfl z44 rfl rfl) rfl rfl (.s .z) ?_
  refine ops_nil ?_
  refine then_ ?_
  refine seq_ ?_
  refine seq_ ?_
  refine jn_ (fun (j1 : Bool) => (⟨40, 0, [(1, [.c (.pv (.int .i64 a1))]), (2, [.c (.pv (.int .i64 a2))]), (3, [.c (.pv (.int .i64 a3))]), (4, [.c (.box 0 0)]), (8, [.c (.box 1 0)]), (18, [.c (.pv (.bool j1))])], [some (.box true 44 (bs (e_zone_Zone a0))), some (.box true 44 (bs (e_zone_Zone (zone_Zone.mk 0 false (arr (arr 0 []) [(arr 0 [0, 0, 0, 0, 0, 0, 0]), (arr 0 [0, 0, 0, 0, 0, 0, 0]), (arr 0 [0, 0, 0, 0, 0, 0, 0]), (arr 0 [0, 0, 0, 0, 0, 0, 0]), (arr 0 [0, 0, 0, 0, 0, 0, 0]), (arr 0 [0, 0, 0, 0, 0, 0, 0]), (arr 0 [0, 0, 0, 0, 0, 0, 0])])))))]⟩ : Sx)) h wT (fun o h => ?_) (fun j1 h => ?_)
  · refine region_ ?_
    refine R tbok 2 [10, 9, 8, 4, 1, 2, 3] [(10, [.c (.pv (.int .i64 a1))]), (9, [.agg (bs (e_zone_Zone a0))]), (8, [.c (.box 1 0)]), (4, [.c (.box 0 0)]), (1, [.c (.pv (.int .i64 a1))]), (2, [.c (.pv (.int .i64 a2))]), (3, [.c (.pv (.int .i64 a3))])] (by kernel_rfl) ?_
    obtain ⟨v1, k1, h⟩ := bindE h
    refine C rfl rfl (fl_call rfl Try.call70 rfl (by kernel_rfl) (by kernel_rfl) (zone_orNought_meets k1)) rfl ?_
    refine R tbok 2 [13, 8, 4, 1, 2, 3] [(13, [.c (.pv (.bool (!v1)))]), (8, [.c (.box 1 0)]), (4, [.c (.box 0 0)]), (1, [.c (.pv (.int .i64 a1))]), (2, [.c (.pv (.int .i64 a2))]), (3, [.c (.pv (.int .i64 a3))])] (by kernel_rfl) ?_
    refine (tf (!v1)).elim (fun k2 => ?_) (fun k2 => ?_)
    · have h := iteT h k2
      refine Ls0 rfl rfl rfl k2 rfl rfl ?_
      refine Ls0 rfl rfl rfl k2 rfl rfl ?_
      refine Ls0 rfl rfl rfl k2 rfl rfl ?_
      refine Ls0 rfl rfl rfl k2 rfl rfl ?_
      refine L rfl rfl (lt_pickT rfl rfl k2 rfl) rfl ?_
      refine ops_nil ?_
      obtain rfl := retE h
      refine mN ?_
      refine w_sub (env' := [(1, [.c (.pv (.int .i64 a1))]), (2, [.c (.pv (.int .i64 a2))]), (3, [.c (.pv (.int .i64 a3))]), (4, [.c (.box 0 0)]), (8, [.c (.box 1 0)]), (18, [.c (.pv (.bool true))])]) (sub_cons rfl (sub_cons rfl (sub_cons rfl (sub_cons rfl (sub_cons rfl (sub_cons rfl sub_nil)))))) ?_
      exact wkE (by kernel_rfl) (by kernel_rfl)
    · have h := iteF h k2
      refine Lg rfl rfl rfl k2 rfl (lt_load_boxA (ys := (bs (e_zone_Zone a0))) rfl ty44 rfl rfl (by kernel_rfl) (by kernel_rfl)) rfl ?_
      refine Lg rfl rfl rfl k2 rfl (lt_move rfl rfl) rfl ?_
      obtain ⟨v2, k3, h⟩ := bindE h
      refine Hg rfl rfl rfl k2 rfl rfl (op_fl rfl rfl (fl_call rfl Try.call70 rfl (by kernel_rfl) (by kernel_rfl) (zone_orNought_meets k3)) ?_)
      refine Lg rfl rfl rfl k2 rfl (lt_not rfl rfl) rfl ?_
      refine L rfl rfl (lt_pickF rfl rfl k2 rfl) rfl ?_
      refine ops_nil ?_
      obtain rfl := retE h
      refine mN ?_
      refine w_sub (env' := [(1, [.c (.pv (.int .i64 a1))]), (2, [.c (.pv (.int .i64 a2))]), (3, [.c (.pv (.int .i64 a3))]), (4, [.c (.box 0 0)]), (8, [.c (.box 1 0)]), (18, [.c (.pv (.bool (!v2)))])]) (sub_cons rfl (sub_cons rfl (sub_cons rfl (sub_cons rfl (sub_cons rfl (sub_cons rfl sub_nil)))))) ?_
      exact wkE (by kernel_rfl) (by kernel_rfl)
  · refine then_ ?_
    refine cond_ (b := j1) rfl (fun k4 => ?_) (fun k4 => ?_)
    · have h := iteT h k4
      refine seq_ ?_
      refine region_ ?_
      refine R tbok 1 [19, 1, 2, 3, 4, 8] [(19, [.agg (bs (e_zone_Zone a0))]), (1, [.c (.pv (.int .i64 a1))]), (2, [.c (.pv (.int .i64 a2))]), (3, [.c (.pv (.int .i64 a3))]), (4, [.c (.box 0 0)]), (8, [.c (.box 1 0)])] (by kernel_rfl) ?_
      refine S rfl rfl rfl ty44 (by decide) rfl rfl rfl rfl rfl (.all rfl) (.s .z) ?_
      refine ops_nil ?_
      refine then_ ?_
      refine ret_ ?_
      obtain rfl := retE h
      refine tR (rwr (rw_ (.cellA (ys := (bs (e_zone_Zone a0))) ty44 rfl rfl (by kernel_rfl) (by kernel_rfl) .nil) ?_))
      refine w_none 0 .z ?_
      refine w_none 1 (.s .z) ?_
      refine w_cut 0 rfl rfl rfl rfl ?_
      exact wkE (by kernel_rfl) (by kernel_rfl)
    · have h := iteF h k4
      refine skip_ ?_
      refine then_ ?_
      refine seq_ ?_
      refine drawn_ mixed ?_
      refine dl (t := 20) 0 [.c (.pv (.int .i64 a1))] rfl ?_
      refine dl (t := 21) 1 [.c (.pv (.int .i64 (IntKind.i64.wrap (a1 + 1))))] rfl ?_
      refine dl (t := 22) 2 [.c (.pv (.int .i64 a2))] rfl ?_
      refine dl (t := 23) 3 [.c (.pv (.int .i64 (IntKind.i64.wrap (a2 + 1))))] rfl ?_
      refine dl (t := 24) 4 [.c (.pv (.int .i64 a1))] rfl ?_
      refine dl (t := 25) 5 [.c (.pv (.int .i64 (IntKind.i64.wrap (a1 + 1))))] rfl ?_
      refine dl (t := 26) 6 [.c (.pv (.int .i64 a2))] rfl ?_
      refine dl (t := 27) 7 [.c (.pv (.int .i64 (IntKind.i64.wrap (a2 + 1))))] rfl ?_
      refine dl (t := 28) 8 [.c (.box 0 2)] rfl ?_
      obtain ⟨v3, k5, h⟩ := bindE h
      refine dl (t := 29) 9 [.c (.box 0 (2 + v3 * 7))] rfl ?_
      obtain ⟨v4, k6, h⟩ := bindE h
      refine dl (t := 30) 10 [.c (.box 0 (2 + v3 * 7 + v4 * 1))] rfl ?_
      refine dl (t := 31) 11 [.c (.pv (.int .i64 ((a0.D v3) v4)))] rfl ?_
      refine dl (t := 32) 12 [.c (.pv (.int .i64 a3))] rfl ?_
      refine dl (t := 33) 13 [.c (.pv (.int .i64 (max a3 (-1099511627776))))] rfl ?_
      refine dl (t := 34) 14 [.c (.pv (.int .i64 (min ((a0.D v3) v4) (max a3 (-1099511627776)))))] rfl ?_
      refine dl (t := 35) 15 [.c (.box 0 2)] rfl ?_
      obtain ⟨v5, k7, h⟩ := bindE h
      refine dl (t := 36) 16 [.c (.box 0 (2 + v5 * 7))] rfl ?_
      obtain ⟨v6, k8, h⟩ := bindE h
      refine dl (t := 37) 17 [.c (.box 0 (2 + v5 * 7 + v6 * 1))] rfl ?_
      obtain ⟨v7, k9, h⟩ := bindE h
      refine d_storeG (cs' := [.pv (.int .i64 a0.N), .pv (.bool a0.None), .pv (.int .i64 ((v7 0) 0)), .pv (.int .i64 ((v7 0) 1)), .pv (.int .i64 ((v7 0) 2)), .pv (.int .i64 ((v7 0) 3)), .pv (.int .i64 ((v7 0) 4)), .pv (.int .i64 ((v7 0) 5)), .pv (.int .i64 ((v7 0) 6)), .pv (.int .i64 ((v7 1) 0)), .pv (.int .i64 ((v7 1) 1)), .pv (.int .i64 ((v7 1) 2)), .pv (.int .i64 ((v7 1) 3)), .pv (.int .i64 ((v7 1) 4)), .pv (.int .i64 ((v7 1) 5)), .pv (.int .i64 ((v7 1) 6)), .pv (.int .i64 ((v7 2) 0)), .pv (.int .i64 ((v7 2) 1)), .pv (.int .i64 ((v7 2) 2)), .pv (.int .i64 ((v7 2) 3)), .pv (.int .i64 ((v7 2) 4)), .pv (.int .i64 ((v7 2) 5)), .pv (.int .i64 ((v7 2) 6)), .pv (.int .i64 ((v7 3) 0)), .pv (.int .i64 ((v7 3) 1)), .pv (.int .i64 ((v7 3) 2)), .pv (.int .i64 ((v7 3) 3)), .pv (.int .i64 ((v7 3) 4)), .pv (.int .i64 ((v7 3) 5)), .pv (.int .i64 ((v7 3) 6)), .pv (.int .i64 ((v7 4) 0)), .pv (.int .i64 ((v7 4) 1)), .pv (.int .i64 ((v7 4) 2)), .pv (.int .i64 ((v7 4) 3)), .pv (.int .i64 ((v7 4) 4)), .pv (.int .i64 ((v7 4) 5)), .pv (.int .i64 ((v7 4) 6)), .pv (.int .i64 ((v7 5) 0)), .pv (.int .i64 ((v7 5) 1)), .pv (.int .i64 ((v7 5) 2)), .pv (.int .i64 ((v7 5) 3)), .pv (.int .i64 ((v7 5) 4)), .pv (.int .i64 ((v7 5) 5)), .pv (.int .i64 ((v7 5) 6)), .pv (.int .i64 ((v7 6) 0)), .pv (.int .i64 ((v7 6) 1)), .pv (.int .i64 ((v7 6) 2)), .pv (.int .i64 ((v7 6) 3)), .pv (.int .i64 ((v7 6) 4)), .pv (.int .i64 ((v7 6) 5)), .pv (.int .i64 ((v7 6) 6))]) (wm [0, 1, 0, 4, 0, 16, 0, 64, 0, 304, 1008, 2032, 0, 4096, 16368, 0, 32771, 131071, 262143]) 18 rfl (by kernel_rfl) (by kernel_rfl) (by kernel_rfl) (by kernel_rfl) (by kernel_rfl) (gi0 rfl) (oL [] rfl (by kernel_rfl) (fl_lt (ia_boxD rfl u41 ty3 rfl rfl k8)) (oL [] rfl (by kernel_rfl) (fl_lt (ia_boxD rfl u42 ty41 rfl rfl k7)) (oE tbok [] 1 (by kernel_rfl) (oL [] rfl (by kernel_rfl) (fl_lt (lt_min2 rfl rfl rfl)) (oL [] rfl (by kernel_rfl) (fl_lt (lt_max2 rfl rfl rfl)) (oE tbok [] 1 (by kernel_rfl) (oL [] rfl (by kernel_rfl) (fl_lt (lt_load_box rfl ty3 rfl rfl (at2 (e := (PV.int .i64)) (D2 := a0.D) (pre := [.int .i64 a0.N, .bool a0.None]) (post := []) (n1 := 7) (n2 := 7) (by kernel_rfl) (inA_lt k5) (inA_lt k6)))) (oL [] rfl (by kernel_rfl) (fl_lt (ia_boxD rfl u41 ty3 rfl rfl k6)) (oL [] rfl (by kernel_rfl) (fl_lt (ia_boxD rfl u42 ty41 rfl rfl k5)) (oE tbok [] 9 (by kernel_rfl) trivial)))))))))) rfl rfl ty3 rfl rfl rfl rfl rfl (fit2 (e := (PV.int .i64)) (D2 := a0.D) (pre := [.int .i64 a0.N, .bool a0.None]) (post := []) (n1 := 7) (n2 := 7) (by kernel_rfl) (inA_lt k7) (inA_lt k8)) (put2 (e := (PV.int .i64)) (D2 := a0.D) (pre := [.int .i64 a0.N, .bool a0.None]) (post := []) (n1 := 7) (n2 := 7) (by kernel_rfl) (inA_lt k7) (inA_lt k8) (retE k9) (by kernel_rfl)) (SetAt.eq .z) ?_
      refine d_endS (env2 := [(4, [.c (.box 0 0)]), (8, [.c (.box 1 0)])]) (wm [0, 1, 0, 4, 0, 16, 0, 64, 0, 304, 1008, 2032, 0, 4096, 16368, 0, 32771, 131071, 262143]) (by kernel_rfl) (by kernel_rfl) (by kernel_rfl) (oN 19 (by kernel_rfl) trivial) (sub_cons rfl (sub_cons rfl sub_nil)) wT ?_
      refine then_ ?_
      refine seq_ ?_
      refine region_ ?_
      refine R tbok 1 [38, 8] [(38, [.agg (bs (e_zone_Zone (zone_Zone.mk a0.N a0.None v7)))]), (8, [.c (.box 1 0)])] (by kernel_rfl) ?_
      obtain ⟨v8, k10, h⟩ := bindE h
      refine C rfl rfl (fl_call rfl Try.call55 rfl (by kernel_rfl) (by kernel_rfl) (zone_Zone_close_meets k10)) rfl ?_
      refine S rfl rfl rfl ty44 (by decide) rfl rfl rfl rfl rfl (.all rfl) (.s .z) ?_
      refine ops_nil ?_
      refine then_ ?_
      refine ret_ ?_
      obtain rfl := retE h
      refine rwr (rw_ (.cellA (ys := (bs (e_zone_Zone v8))) ty44 rfl rfl (by kernel_rfl) (by kernel_rfl) .nil) ?_)
      refine w_none 0 .z ?_
      refine w_none 1 (.s .z) ?_
      refine w_cut 0 rfl rfl rfl rfl ?_
      exact wkE (by kernel_rfl) (by kernel_rfl)

theorem num_held_meets {a0 : zone_Zone} {a1 : Int} {a2 : itv_Itv} {r : zone_Zone} (h : num_held a0 a1 a2 = some r) : MeetsV Try.prog GG 36 [.agg (bs (e_zone_Zone a0)), .c (.pv (.int .i64 a1)), .agg [.pv (.int .i64 a2.Lo), .pv (.int .i64 a2.Hi)]] [.agg (bs (e_zone_Zone r))] := by
  refine MeetsS.toV (meetsW_of (st0 := []) (N := 34) r_num_held o_num_held r Try.func36 rfl rfl rfl (by dsimp only [argEnv]) rfl ?_) rfl
  unfold num_held at h
  refine seq_ ?_
  refine region_ ?_
  refine B rfl rfl (bir_box rfl rfl rfl) rfl rfl .z ?_
  refine B rfl rfl (bir_box rfl rfl rfl) rfl rfl (.s .z) ?_
  refine B rfl rfl (bir_alloc rfl z44 rfl rfl) rfl rfl (.s (.s .z)) ?_
  refine ops_nil ?_
  refine then_ ?_
  refine seq_ ?_
  refine block_ ?_
  refine seq_ ?_
  refine jn_ (fun (j1 : Bool) => (⟨34, 0, [(1, [.c (.pv (.int .i64 a1))]), (3, [.c (.box 0 0)]), (5, [.c (.box 1 0)]), (6, [.c (.box 2 0)]), (7, [.c (.pv (.bool j1))])], [some (.box true 44 (bs (e_zone_Zone a0))), some (.box true 53 [.pv (.int .i64 a2.Lo), .pv (.int .i64 a2.Hi)]), some (.box true 44 (bs (e_zone_Zone (zone_Zone.mk 0 false (arr (arr 0 []) [(arr 0 [0, 0, 0, 0, 0, 0, 0]), (arr 0 [0, 0, 0, 0, 0, 0, 0]), (arr 0 [0, 0, 0, 0, 0, 0, 0]), (arr 0 [0, 0, 0, 0, 0, 0, 0]), (arr 0 [0, 0, 0, 0, 0, 0, 0]), (arr 0 [0, 0, 0, 0, 0, 0, 0]), (arr 0 [0, 0, 0, 0, 0, 0, 0])])))))]⟩ : Sx)) h wT (fun o h => ?_) (fun j1 h => ?_)
  · refine region_ ?_
    refine R tbok 3 [10, 6, 5, 3, 1] [(10, [.c (.pv (.bool (decide (a1 < 0))))]), (6, [.c (.box 2 0)]), (5, [.c (.box 1 0)]), (3, [.c (.box 0 0)]), (1, [.c (.pv (.int .i64 a1))])] (by kernel_rfl) ?_
    refine (tf (decide (a1 < 0))).elim (fun k1 => ?_) (fun k1 => ?_)
    · have h := iteT h k1
      refine Ls0 rfl rfl rfl k1 rfl rfl ?_
      refine Ls0 rfl rfl rfl k1 rfl rfl ?_
      refine Ls0 rfl rfl rfl k1 rfl rfl ?_
      refine Ls0 rfl rfl rfl k1 rfl rfl ?_
      refine L rfl rfl (lt_pickT rfl rfl k1 rfl) rfl ?_
      refine R tbok 1 [7, 6, 5, 3, 1] [(7, [.c (.pv (.bool true))]), (6, [.c (.box 2 0)]), (5, [.c (.box 1 0)]), (3, [.c (.box 0 0)]), (1, [.c (.pv (.int .i64 a1))])] (by kernel_rfl) ?_
      refine ops_nil ?_
      obtain rfl := retE h
      refine mN ?_
      refine w_sub (env' := [(1, [.c (.pv (.int .i64 a1))]), (3, [.c (.box 0 0)]), (5, [.c (.box 1 0)]), (6, [.c (.box 2 0)]), (7, [.c (.pv (.bool true))])]) (sub_cons rfl (sub_cons rfl (sub_cons rfl (sub_cons rfl (sub_cons rfl sub_nil))))) ?_
      exact wkE (by kernel_rfl) (by kernel_rfl)
    · have h := iteF h k1
      refine Lg rfl rfl rfl k1 rfl (lt_move rfl rfl) rfl ?_
      refine Lg rfl rfl rfl k1 rfl (lt_fa_box rfl f44_0 ty3 (by decide) rfl) rfl ?_
      refine Lg rfl rfl rfl k1 rfl (lt_load_box rfl ty3 rfl rfl rfl) rfl ?_
      refine Lg rfl rfl rfl k1 rfl (lt_int rfl rfl rfl rfl) rfl ?_
      refine L rfl rfl (lt_pickF rfl rfl k1 rfl) rfl ?_
      refine R tbok 1 [7, 6, 5, 3, 1] [(7, [.c (.pv (.bool (decide (a1 ≥ a0.N))))]), (6, [.c (.box 2 0)]), (5, [.c (.box 1 0)]), (3, [.c (.box 0 0)]), (1, [.c (.pv (.int .i64 a1))])] (by kernel_rfl) ?_
      refine ops_nil ?_
      obtain rfl := retE h
      refine mN ?_
      refine w_sub (env' := [(1, [.c (.pv (.int .i64 a1))]), (3, [.c (.box 0 0)]), (5, [.c (.box 1 0)]), (6, [.c (.box 2 0)]), (7, [.c (.pv (.bool (decide (a1 ≥ a0.N))))])]) (sub_cons rfl (sub_cons rfl (sub_cons rfl (sub_cons rfl (sub_cons rfl sub_nil))))) ?_
      exact wkE (by kernel_rfl) (by kernel_rfl)
  · refine then_ ?_
    refine cond_ (b := j1) rfl (fun k2 => ?_) (fun k2 => ?_)
    · have h := iteT h k2
      refine seq_ ?_
      refine region_ ?_
      refine R tbok 1 [16, 1, 3, 5, 6] [(16, [.agg (bs (e_zone_Zone a0))]), (1, [.c (.pv (.int .i64 a1))]), (3, [.c (.box 0 0)]), (5, [.c (.box 1 0)]), (6, [.c (.box 2 0)])] (by kernel_rfl) ?_
      refine S rfl rfl rfl ty44 (by decide) rfl rfl rfl rfl rfl (.all rfl) (.s (.s .z)) ?_
      refine ops_nil ?_
      refine then_ ?_
      refine ret_ ?_
      obtain rfl := retE h
      refine bR (tR (rwr (rw_ (.cellA (ys := (bs (e_zone_Zone a0))) ty44 rfl rfl (by kernel_rfl) (by kernel_rfl) .nil) ?_)))
      refine w_none 0 .z ?_
      refine w_none 1 (.s .z) ?_
      refine w_none 2 (.s (.s .z)) ?_
      refine w_cut 0 rfl rfl rfl rfl ?_
      exact wkE (by kernel_rfl) (by kernel_rfl)
    · have h := iteF h k2
      refine seq_ ?_
      refine region_ ?_
      refine R tbok 1 [18, 1, 3, 5, 6] [(18, [.agg [.pv (.int .i64 a2.Lo), .pv (.int .i64 a2.Hi)]]), (1, [.c (.pv (.int .i64 a1))]), (3, [.c (.box 0 0)]), (5, [.c (.box 1 0)]), (6, [.c (.box 2 0)])] (by kernel_rfl) ?_
      obtain ⟨v1, k3, h⟩ := bindE h
      refine C rfl rfl (fl_call rfl Try.call31 rfl (by kernel_rfl) (by kernel_rfl) (itv_Empty_meets k3)) rfl ?_
      refine R tbok 1 [17, 1, 3, 5, 6] [(17, [.c (.pv (.bool v1))]), (1, [.c (.pv (.int .i64 a1))]), (3, [.c (.box 0 0)]), (5, [.c (.box 1 0)]), (6, [.c (.box 2 0)])] (by kernel_rfl) ?_
      refine ops_nil ?_
      refine then_ ?_
      refine cond_ (b := v1) rfl (fun k4 => ?_) (fun k4 => ?_)
      · have h := iteT h k4
        refine seq_ ?_
        refine region_ ?_
        refine R tbok 2 [21, 1, 3, 5, 6] [(21, [.c (.pv (.int .i64 a0.N))]), (1, [.c (.pv (.int .i64 a1))]), (3, [.c (.box 0 0)]), (5, [.c (.box 1 0)]), (6, [.c (.box 2 0)])] (by kernel_rfl) ?_
        obtain ⟨v2, k5, h⟩ := bindE h
        refine C rfl rfl (fl_call rfl Try.call38 rfl (by kernel_rfl) (by kernel_rfl) (num_None_meets k5)) rfl ?_
        refine R tbok 1 [23, 1, 3, 5, 6] [(23, [.agg (bs (e_zone_Zone v2.Z))]), (1, [.c (.pv (.int .i64 a1))]), (3, [.c (.box 0 0)]), (5, [.c (.box 1 0)]), (6, [.c (.box 2 0)])] (by kernel_rfl) ?_
        refine S rfl rfl rfl ty44 (by decide) rfl rfl rfl rfl rfl (.all rfl) (.s (.s .z)) ?_
        refine ops_nil ?_
        refine then_ ?_
        refine ret_ ?_
        obtain rfl := retE h
        refine bR (tR (rwr (rw_ (.cellA (ys := (bs (e_zone_Zone v2.Z))) ty44 rfl rfl (by kernel_rfl) (by kernel_rfl) .nil) ?_)))
        refine w_none 0 .z ?_
        refine w_none 1 (.s .z) ?_
        refine w_none 2 (.s (.s .z)) ?_
        refine w_cut 0 rfl rfl rfl rfl ?_
        exact wkE (by kernel_rfl) (by kernel_rfl)
      · have h := iteF h k4
        refine skip_ ?_
        refine bN ?_
        refine then_ ?_
        refine seq_ ?_
        refine drawn_ mixed ?_
        refine dl (t := 24) 0 [.agg (bs (e_zone_Zone a0))] rfl ?_
        refine dl (t := 25) 1 [.c (.pv (.int .i64 a1))] rfl ?_
        refine dl (t := 26) 2 [.c (.box 1 1)] rfl ?_
        refine dl (t := 27) 3 [.c (.pv (.int .i64 a2.Hi))] rfl ?_
        obtain ⟨v4, k7, h⟩ := bindE h
        refine dl (t := 28) 4 [.agg (bs (e_zone_Zone v4))] rfl ?_
        refine dl (t := 29) 5 [.c (.pv (.int .i64 a1))] rfl ?_
        refine dl (t := 30) 6 [.c (.box 1 0)] rfl ?_
        refine dl (t := 31) 7 [.c (.pv (.int .i64 a2.Lo))] rfl ?_
        refine dl (t := 32) 8 [.c (.pv (.int .i64 (IntKind.i64.wrap (0 - a2.Lo))))] rfl ?_
        obtain ⟨v6, k9, h⟩ := bindE h
        refine dl (t := 33) 9 [.agg (bs (e_zone_Zone v6))] rfl ?_
        refine d_store (wm [0, 0, 0, 4, 15, 0, 0, 64, 192, 511, 1023]) 10 rfl (by kernel_rfl) (by kernel_rfl) (by kernel_rfl) (by kernel_rfl) (by kernel_rfl) (gi0 rfl) (oL [] rfl (by kernel_rfl) (fl_call rfl Try.call52 rfl (by kernel_rfl) (by kernel_rfl) (zone_Bound_meets k9)) (oE tbok [] 4 (by kernel_rfl) (oL [] rfl (by kernel_rfl) (fl_call rfl Try.call52 rfl (by kernel_rfl) (by kernel_rfl) (zone_Bound_meets k7)) (oE tbok [] 4 (by kernel_rfl) trivial)))) rfl rfl ty44 rfl rfl rfl rfl rfl rfl (putE 51 (.all rfl) rfl (by decide)) (SetAt.eq (.s (.s .z))) ?_
        refine d_endS (env2 := [(6, [.c (.box 2 0)])]) (wm [0, 0, 0, 4, 15, 0, 0, 64, 192, 511, 1023]) (by kernel_rfl) (by kernel_rfl) (by kernel_rfl) (oN 11 (by kernel_rfl) trivial) (sub_cons rfl sub_nil) wT ?_
        refine then_ ?_
        refine ret_ ?_
        obtain rfl := retE h
        refine rwr (rw_ (.cellA (ys := (bs (e_zone_Zone v6))) ty44 rfl rfl (by kernel_rfl) (by kernel_rfl) .nil) ?_)
        refine w_none 0 .z ?_
        refine w_none 1 (.s .z) ?_
        refine w_none 2 (.s (.s .z)) ?_
        refine w_cut 0 rfl rfl rfl rfl ?_
        exact wkE (by kernel_rfl) (by kernel_rfl)

theorem num_Meet_meets {a0 : num_Num} {a1 : Int} {a2 : itv_Itv} {r : num_Num} (h : num_Meet a0 a1 a2 = some r) : MeetsV Try.prog GG 74 [.agg (bs (e_num_Num a0)), .c (.pv (.int .i64 a1)), .agg [.pv (.int .i64 a2.Lo), .pv (.int .i64 a2.Hi)]] [.agg (bs (e_num_Num r))] := by
  refine MeetsS.toV (meetsW_of (st0 := []) (N := 13) r_num_Meet o_num_Meet r Try.func74 rfl rfl rfl (by dsimp only [argEnv]) rfl ?_) rfl
  unfold num_Meet at h
  refine seq_ ?_
  refine region_ ?_
  refine B rfl rfl (bir_box rfl rfl rfl) rfl rfl .z ?_
  refine B rfl rfl (bir_box rfl rfl rfl) rfl rfl (.s .z) ?_
  refine B rfl rfl (bir_alloc rfl z46 rfl rfl) rfl rfl (.s (.s .z)) ?_
  refine ops_nil ?_
  refine then_ ?_
  refine seq_ ?_
  refine region_ ?_
  refine R tbok 4 [10, 9, 8, 6] [(10, [.agg [.pv (.int .i64 a2.Lo), .pv (.int .i64 a2.Hi)]]), (9, [.c (.pv (.int .i64 a1))]), (8, [.agg (bs (e_zone_Zone a0.Z))]), (6, [.c (.box 2 0)])] (by kernel_rfl) ?_
  obtain ⟨v1, k1, h⟩ := bindE h
  refine C rfl rfl (fl_call rfl Try.call36 rfl (by kernel_rfl) (by kernel_rfl) (num_held_meets k1)) rfl ?_
  obtain ⟨v2, k2, h⟩ := bindE h
  refine C rfl rfl (fl_call rfl Try.call34 rfl (by kernel_rfl) (by kernel_rfl) (num_of_meets k2)) rfl ?_
  refine S rfl rfl rfl ty46 (by decide) rfl rfl rfl rfl rfl (.all rfl) (.s (.s .z)) ?_
  refine ops_nil ?_
  refine then_ ?_
  refine ret_ ?_
  obtain rfl := retE h
  refine rwr (rw_ (.cellA (ys := (bs (e_num_Num v2))) ty46 rfl rfl (by kernel_rfl) (by kernel_rfl) .nil) ?_)
  refine w_none 0 .z ?_
  refine w_none 1 (.s .z) ?_
  refine w_none 2 (.s (.s .z)) ?_
  refine w_cut 0 rfl rfl rfl rfl ?_
  exact wkE (by kernel_rfl) (by kernel_rfl)

theorem zone_Forget_meets {a0 : zone_Zone} {a1 : Int} {r : zone_Zone} (h : zone_Forget a0 a1 = some r) : MeetsV Try.prog GG 37 [.agg (bs (e_zone_Zone a0)), .c (.pv (.int .i64 a1))] [.agg (bs (e_zone_Zone r))] := by
  refine MeetsS.toV (meetsW_of (st0 := []) (N := 15) r_zone_Forget o_zone_Forget r Try.func37 rfl rfl rfl (by dsimp only [argEnv]) rfl ?_) rfl
  unfold zone_Forget at h
  refine seq_ ?_
  refine region_ ?_
  refine B rfl rfl (bir_box rfl rfl rfl) rfl rfl .z ?_
  refine B rfl rfl (bir_alloc rfl z44 rfl rfl) rfl rfl (.s .z) ?_
  refine ops_nil ?_
  refine then_ ?_
  refine seq_ ?_
  refine seq_ ?_
  refine region_ ?_
  refine R tbok 2 [6, 5, 4, 2, 1] [(6, [.c (.pv (.int .i64 a1))]), (5, [.agg (bs (e_zone_Zone a0))]), (4, [.c (.box 1 0)]), (2, [.c (.box 0 0)]), (1, [.c (.pv (.int .i64 a1))])] (by kernel_rfl) ?_
  obtain ⟨v1, k1, h⟩ := bindE h
  refine C rfl rfl (fl_call rfl Try.call53 rfl (by kernel_rfl) (by kernel_rfl) (zone_variable_meets k1)) rfl ?_
  refine R tbok 1 [8, 4, 2, 1] [(8, [.c (.pv (.bool (!v1)))]), (4, [.c (.box 1 0)]), (2, [.c (.box 0 0)]), (1, [.c (.pv (.int .i64 a1))])] (by kernel_rfl) ?_
  refine ops_nil ?_
  refine then_ ?_
  refine cond_ (b := (!v1)) rfl (fun k2 => ?_) (fun k2 => ?_)
  · have h := iteT h k2
    refine seq_ ?_
    refine region_ ?_
    refine R tbok 1 [9, 4, 2, 1] [(9, [.agg (bs (e_zone_Zone a0))]), (4, [.c (.box 1 0)]), (2, [.c (.box 0 0)]), (1, [.c (.pv (.int .i64 a1))])] (by kernel_rfl) ?_
    refine S rfl rfl rfl ty44 (by decide) rfl rfl rfl rfl rfl (.all rfl) (.s .z) ?_
    refine ops_nil ?_
    refine then_ ?_
    refine ret_ ?_
    obtain rfl := retE h
    refine tR (rwr (rw_ (.cellA (ys := (bs (e_zone_Zone a0))) ty44 rfl rfl (by kernel_rfl) (by kernel_rfl) .nil) ?_))
    refine w_none 0 .z ?_
    refine w_none 1 (.s .z) ?_
    refine w_cut 0 rfl rfl rfl rfl ?_
    exact wkE (by kernel_rfl) (by kernel_rfl)
  · have h := iteF h k2
    refine skip_ ?_
    refine then_ ?_
    refine seq_ ?_
    refine region_ ?_
    refine R tbok 2 [11, 4, 2] [(11, [.c (.pv (.int .i64 (IntKind.i64.wrap (a1 + 1))))]), (4, [.c (.box 1 0)]), (2, [.c (.box 0 0)])] (by kernel_rfl) ?_
    obtain ⟨v2, k3, h⟩ := bindE h
    refine callS (env' := [(11, [.c (.pv (.int .i64 (IntKind.i64.wrap (a1 + 1))))]), (4, [.c (.box 1 0)]), (2, [.c (.box 0 0)])]) (argsX' := []) (st' := [some (.box true 44 (bs (e_zone_Zone v2))), some (.box true 44 (bs (e_zone_Zone (zone_Zone.mk 0 false (arr (arr 0 []) [(arr 0 [0, 0, 0, 0, 0, 0, 0]), (arr 0 [0, 0, 0, 0, 0, 0, 0]), (arr 0 [0, 0, 0, 0, 0, 0, 0]), (arr 0 [0, 0, 0, 0, 0, 0, 0]), (arr 0 [0, 0, 0, 0, 0, 0, 0]), (arr 0 [0, 0, 0, 0, 0, 0, 0]), (arr 0 [0, 0, 0, 0, 0, 0, 0])])))))]) [0] [] rfl rfl rfl rfl Try.call54 rfl rfl (by kernel_rfl) (by kernel_rfl) (zone_Zone_forget_meets k3) (by kernel_rfl) (by kernel_rfl) (by kernel_rfl) ?_
    refine ops_nil ?_
    refine then_ ?_
    refine seq_ ?_
    refine region_ ?_
    refine R tbok 1 [13, 4] [(13, [.agg (bs (e_zone_Zone v2))]), (4, [.c (.box 1 0)])] (by kernel_rfl) ?_
    obtain ⟨v3, k4, h⟩ := bindE h
    refine C rfl rfl (fl_call rfl Try.call55 rfl (by kernel_rfl) (by kernel_rfl) (zone_Zone_close_meets k4)) rfl ?_
    refine S rfl rfl rfl ty44 (by decide) rfl rfl rfl rfl rfl (.all rfl) (.s .z) ?_
    refine ops_nil ?_
    refine then_ ?_
    refine ret_ ?_
    obtain rfl := retE h
    refine rwr (rw_ (.cellA (ys := (bs (e_zone_Zone v3))) ty44 rfl rfl (by kernel_rfl) (by kernel_rfl) .nil) ?_)
    refine w_none 0 .z ?_
    refine w_none 1 (.s .z) ?_
    refine w_cut 0 rfl rfl rfl rfl ?_
    exact wkE (by kernel_rfl) (by kernel_rfl)

theorem num_Set_meets {a0 : num_Num} {a1 : Int} {a2 : itv_Itv} {r : num_Num} (h : num_Set a0 a1 a2 = some r) : MeetsV Try.prog GG 21 [.agg (bs (e_num_Num a0)), .c (.pv (.int .i64 a1)), .agg [.pv (.int .i64 a2.Lo), .pv (.int .i64 a2.Hi)]] [.agg (bs (e_num_Num r))] := by
  refine MeetsS.toV (meetsW_of (st0 := []) (N := 15) r_num_Set o_num_Set r Try.func21 rfl rfl rfl (by dsimp only [argEnv]) rfl ?_) rfl
  unfold num_Set at h
  refine seq_ ?_
  refine region_ ?_
  refine B rfl rfl (bir_box rfl rfl rfl) rfl rfl .z ?_
  refine B rfl rfl (bir_box rfl rfl rfl) rfl rfl (.s .z) ?_
  refine B rfl rfl (bir_alloc rfl z46 rfl rfl) rfl rfl (.s (.s .z)) ?_
  refine ops_nil ?_
  refine then_ ?_
  refine seq_ ?_
  refine drawn_ mixed ?_
  refine dl (t := 7) 0 [.c (.box 0 2)] rfl ?_
  refine dl (t := 8) 1 [.agg (bs (e_zone_Zone a0.Z))] rfl ?_
  refine dl (t := 9) 2 [.c (.pv (.int .i64 a1))] rfl ?_
  obtain ⟨v2, k2, h⟩ := bindE h
  refine dl (t := 10) 3 [.agg (bs (e_zone_Zone v2))] rfl ?_
  refine dl (t := 11) 4 [.c (.pv (.int .i64 a1))] rfl ?_
  refine dl (t := 12) 5 [.agg [.pv (.int .i64 a2.Lo), .pv (.int .i64 a2.Hi)]] rfl ?_
  obtain ⟨v4, k4, h⟩ := bindE h
  refine dl (t := 13) 6 [.agg (bs (e_zone_Zone v4))] rfl ?_
  obtain ⟨v6, k6, h⟩ := bindE h
  refine dl (t := 14) 7 [.agg (bs (e_num_Num v6))] rfl ?_
  refine d_store (wm [0, 1, 0, 7, 0, 0, 63, 127, 255]) 8 rfl (by kernel_rfl) (by kernel_rfl) (by kernel_rfl) (by kernel_rfl) (by kernel_rfl) (gi0 rfl) (oL [] rfl (by kernel_rfl) (fl_call rfl Try.call34 rfl (by kernel_rfl) (by kernel_rfl) (num_of_meets k6)) (oL [] rfl (by kernel_rfl) (fl_call rfl Try.call36 rfl (by kernel_rfl) (by kernel_rfl) (num_held_meets k4)) (oE tbok [] 2 (by kernel_rfl) (oL [] rfl (by kernel_rfl) (fl_call rfl Try.call37 rfl (by kernel_rfl) (by kernel_rfl) (zone_Forget_meets k2)) (oE tbok [] 3 (by kernel_rfl) trivial))))) rfl rfl ty46 rfl rfl rfl rfl rfl rfl (putE 53 (.all rfl) rfl (by decide)) (SetAt.eq (.s (.s .z))) ?_
  refine d_endS (env2 := [(6, [.c (.box 2 0)])]) (wm [0, 1, 0, 7, 0, 0, 63, 127, 255]) (by kernel_rfl) (by kernel_rfl) (by kernel_rfl) (oN 9 (by kernel_rfl) trivial) (sub_cons rfl sub_nil) wT ?_
  refine then_ ?_
  refine ret_ ?_
  obtain rfl := retE h
  refine rwr (rw_ (.cellA (ys := (bs (e_num_Num v6))) ty46 rfl rfl (by kernel_rfl) (by kernel_rfl) .nil) ?_)
  refine w_none 0 .z ?_
  refine w_none 1 (.s .z) ?_
  refine w_none 2 (.s (.s .z)) ?_
  refine w_cut 0 rfl rfl rfl rfl ?_
  exact wkE (by kernel_rfl) (by kernel_rfl)

theorem eval_Assign_meets {a0 : num_Num} {a1 : Int} {a2 : check_Expr} {r : (num_Num × itv_Errs)} (h : eval_Assign a0 a1 a2 = some r) : MeetsV Try.prog GG 56 [.agg (bs (e_num_Num a0)), .c (.pv (.int .i64 a1)), .agg [.pv (.int .i64 a2.Kind), .pv (.int .i64 a2.Num), .pv (.int .i64 a2.Var), .pv (.sl (List.map e_check_Expr a2.Kids))]] [.agg (bs (e_num_Num r.1)), .agg [.pv (.bool r.2.Overflow), .pv (.bool r.2.DivZero)]] := by
  refine MeetsS.toV (meetsW_of (st0 := []) (N := 47) r_eval_Assign o_eval_Assign r Try.func56 rfl rfl rfl (by dsimp only [argEnv]) rfl ?_) rfl
  unfold eval_Assign at h
  refine seq_ ?_
  refine region_ ?_
  refine B rfl rfl (bir_box rfl rfl rfl) rfl rfl .z ?_
  refine B rfl rfl (bir_box rfl rfl rfl) rfl rfl (.s .z) ?_
  refine B rfl rfl (bir_alloc rfl z46 rfl rfl) rfl rfl (.s (.s .z)) ?_
  refine B rfl rfl (bir_alloc rfl z120 rfl rfl) rfl rfl (.s (.s (.s .z))) ?_
  refine ops_nil ?_
  refine then_ ?_
  refine seq_ ?_
  refine region_ ?_
  refine R tbok 2 [15, 14, 7, 6, 5, 3, 1] [(15, [.agg (bs (e_num_Num a0))]), (14, [.agg [.pv (.int .i64 a2.Kind), .pv (.int .i64 a2.Num), .pv (.int .i64 a2.Var), .pv (.sl (List.map e_check_Expr a2.Kids))]]), (7, [.c (.box 3 0)]), (6, [.c (.box 2 0)]), (5, [.c (.box 1 0)]), (3, [.c (.box 0 0)]), (1, [.c (.pv (.int .i64 a1))])] (by kernel_rfl) ?_
  obtain ⟨v1, k1, h⟩ := bindE h
  refine C rfl rfl (fl_call rfl Try.call62 rfl (by kernel_rfl) (by kernel_rfl) (eval_Eval_meets k1)) rfl ?_
  refine R tbok 3 [18, 17, 7, 6, 5, 3, 1] [(18, [.agg [.pv (.bool v1.2.Overflow), .pv (.bool v1.2.DivZero)]]), (17, [.agg [.pv (.int .i64 v1.1.Lo), .pv (.int .i64 v1.1.Hi)]]), (7, [.c (.box 3 0)]), (6, [.c (.box 2 0)]), (5, [.c (.box 1 0)]), (3, [.c (.box 0 0)]), (1, [.c (.pv (.int .i64 a1))])] (by kernel_rfl) ?_
  refine B rfl rfl (bir_alloc rfl z53 rfl rfl) rfl rfl (.s (.s (.s (.s .z)))) ?_
  refine B rfl rfl (bir_alloc rfl z120 rfl rfl) rfl rfl (.s (.s (.s (.s (.s .z))))) ?_
  refine S rfl rfl rfl ty53 (by decide) rfl rfl rfl rfl rfl (.all rfl) (.s (.s (.s (.s .z)))) ?_
  refine S rfl rfl rfl ty120 (by decide) rfl rfl rfl rfl rfl (.all rfl) (.s (.s (.s (.s (.s .z))))) ?_
  refine ops_nil ?_
  refine then_ ?_
  refine seq_ ?_
  refine seq_ ?_
  refine region_ ?_
  refine R tbok 1 [19, 9, 8, 7, 6, 5, 3, 1] [(19, [.agg [.pv (.int .i64 v1.1.Lo), .pv (.int .i64 v1.1.Hi)]]), (9, [.c (.box 5 0)]), (8, [.c (.box 4 0)]), (7, [.c (.box 3 0)]), (6, [.c (.box 2 0)]), (5, [.c (.box 1 0)]), (3, [.c (.box 0 0)]), (1, [.c (.pv (.int .i64 a1))])] (by kernel_rfl) ?_
  obtain ⟨v2, k2, h⟩ := bindE h
  refine C rfl rfl (fl_call rfl Try.call31 rfl (by kernel_rfl) (by kernel_rfl) (itv_Empty_meets k2)) rfl ?_
  refine ops_nil ?_
  refine then_ ?_
  refine cond_ (b := v2) rfl (fun k3 => ?_) (fun k3 => ?_)
  · have h := iteT h k3
    refine seq_ ?_
    refine drawn_ mixed ?_
    refine dl (t := 21) 0 [.c (.box 0 1)] rfl ?_
    refine dl (t := 22) 1 [.c (.pv (.sl (List.map e_itv_Itv a0.I)))] rfl ?_
    refine dl (t := 23) 2 [.c (.pv (.int .i64 (a0.I.length : Int)))] rfl ?_
    obtain ⟨v4, k5, h⟩ := bindE h
    refine dl (t := 24) 3 [.agg (bs (e_num_Num v4))] rfl ?_
    refine dl (t := 25) 4 [.agg [.pv (.bool v1.2.Overflow), .pv (.bool v1.2.DivZero)]] rfl ?_
    refine d_store (wm [0, 1, 3, 7, 0, 15, 63]) 5 rfl (by kernel_rfl) (by kernel_rfl) (by kernel_rfl) (by kernel_rfl) (by kernel_rfl) (gi0 rfl) (oE tbok [] 1 (by kernel_rfl) (oL [] rfl (by kernel_rfl) (fl_call rfl Try.call38 rfl (by kernel_rfl) (by kernel_rfl) (num_None_meets k5)) (oL [] rfl (by kernel_rfl) (fl_lt (len_sl (e := e_itv_Itv) rfl u40 rfl)) (oE tbok [] 2 (by kernel_rfl) trivial)))) rfl rfl ty46 rfl rfl rfl rfl rfl rfl (putE 53 (.all rfl) rfl (by decide)) (SetAt.eq (.s (.s .z))) ?_
    refine d_store (wm [0, 1, 3, 7, 0, 15, 63]) 6 rfl (by kernel_rfl) (by kernel_rfl) (by kernel_rfl) (by kernel_rfl) (by kernel_rfl) (gi0 rfl) (oN 1 (by kernel_rfl) (oE tbok [] 1 (by kernel_rfl) (oN 4 (by kernel_rfl) trivial))) rfl rfl ty120 rfl rfl rfl rfl rfl rfl (putE 2 (.all rfl) rfl (by decide)) (SetAt.eq (.s (.s (.s .z)))) ?_
    refine d_endS (env2 := [(9, [.c (.box 5 0)]), (8, [.c (.box 4 0)]), (7, [.c (.box 3 0)]), (6, [.c (.box 2 0)]), (5, [.c (.box 1 0)]), (3, [.c (.box 0 0)]), (1, [.c (.pv (.int .i64 a1))])]) (wm [0, 1, 3, 7, 0, 15, 63]) (by kernel_rfl) (by kernel_rfl) (by kernel_rfl) (oN 7 (by kernel_rfl) trivial) (sub_cons rfl (sub_cons rfl (sub_cons rfl (sub_cons rfl (sub_cons rfl (sub_cons rfl (sub_cons rfl sub_nil))))))) wT ?_
    refine then_ ?_
    refine ret_ ?_
    obtain rfl := retE h
    refine tR (rwr (rw_ (.cellA (ys := (bs (e_num_Num v4))) ty46 rfl rfl (by kernel_rfl) (by kernel_rfl) (.cellA (ys := [.pv (.bool v1.2.Overflow), .pv (.bool v1.2.DivZero)]) ty120 rfl rfl (by kernel_rfl) (by kernel_rfl) .nil)) ?_))
    refine w_none 0 .z ?_
    refine w_none 1 (.s .z) ?_
    refine w_none 2 (.s (.s .z)) ?_
    refine w_none 3 (.s (.s (.s .z))) ?_
    refine w_none 4 (.s (.s (.s (.s .z)))) ?_
    refine w_none 5 (.s (.s (.s (.s (.s .z))))) ?_
    refine w_cut 0 rfl rfl rfl rfl ?_
    exact wkE (by kernel_rfl) (by kernel_rfl)
  · have h := iteF h k3
    refine skip_ ?_
    refine then_ ?_
    refine seq_ ?_
    refine seq_ ?_
    refine region_ ?_
    refine R tbok 1 [27, 9, 8, 7, 6, 3, 1] [(27, [.agg [.pv (.int .i64 a2.Kind), .pv (.int .i64 a2.Num), .pv (.int .i64 a2.Var), .pv (.sl (List.map e_check_Expr a2.Kids))]]), (9, [.c (.box 5 0)]), (8, [.c (.box 4 0)]), (7, [.c (.box 3 0)]), (6, [.c (.box 2 0)]), (3, [.c (.box 0 0)]), (1, [.c (.pv (.int .i64 a1))])] (by kernel_rfl) ?_
    obtain ⟨v5, k6, h⟩ := bindE h
    refine C rfl rfl (fl_call rfl Try.call73 rfl (by kernel_rfl) (by kernel_rfl) (eval_Linear_meets k6)) rfl ?_
    refine R tbok 7 [12, 11, 10, 9, 8, 7, 6, 3, 1] [(12, [.c (.pv (.bool v5.2.2))]), (11, [.c (.pv (.int .i64 v5.2.1))]), (10, [.c (.pv (.int .i64 v5.1))]), (9, [.c (.box 5 0)]), (8, [.c (.box 4 0)]), (7, [.c (.box 3 0)]), (6, [.c (.box 2 0)]), (3, [.c (.box 0 0)]), (1, [.c (.pv (.int .i64 a1))])] (by kernel_rfl) ?_
    refine ops_nil ?_
    refine then_ ?_
    refine seq_ ?_
    refine region_ ?_
    refine R tbok 1 [32, 11, 10, 9, 8, 7, 6, 3, 1] [(32, [.c (.pv (.bool v5.2.2))]), (11, [.c (.pv (.int .i64 v5.2.1))]), (10, [.c (.pv (.int .i64 v5.1))]), (9, [.c (.box 5 0)]), (8, [.c (.box 4 0)]), (7, [.c (.box 3 0)]), (6, [.c (.box 2 0)]), (3, [.c (.box 0 0)]), (1, [.c (.pv (.int .i64 a1))])] (by kernel_rfl) ?_
    refine ops_nil ?_
    refine then_ ?_
    refine cond_ (b := v5.2.2) rfl (fun k7 => ?_) (fun k7 => ?_)
    · have h := iteT h k7
      refine seq_ ?_
      refine drawn_ mixed ?_
      refine dl (t := 33) 0 [.agg (bs (e_num_Num a0))] rfl ?_
      refine dl (t := 34) 1 [.c (.pv (.int .i64 a1))] rfl ?_
      refine dl (t := 35) 2 [.c (.pv (.int .i64 v5.1))] rfl ?_
      refine dl (t := 36) 3 [.c (.pv (.int .i64 v5.2.1))] rfl ?_
      obtain ⟨v7, k9, h⟩ := bindE h
      refine dl (t := 37) 4 [.agg (bs (e_num_Num v7))] rfl ?_
      refine dl (t := 38) 5 [.c (.pv (.int .i64 a1))] rfl ?_
      refine dl (t := 39) 6 [.agg [.pv (.int .i64 v1.1.Lo), .pv (.int .i64 v1.1.Hi)]] rfl ?_
      obtain ⟨v9, k11, h⟩ := bindE h
      refine dl (t := 40) 7 [.agg (bs (e_num_Num v9))] rfl ?_
      refine dl (t := 41) 8 [.agg [.pv (.bool v1.2.Overflow), .pv (.bool v1.2.DivZero)]] rfl ?_
      refine d_store (wm [0, 0, 0, 0, 15, 0, 0, 127, 0, 255, 1023]) 9 rfl (by kernel_rfl) (by kernel_rfl) (by kernel_rfl) (by kernel_rfl) (by kernel_rfl) (gi0 rfl) (oE tbok [] 1 (by kernel_rfl) (oL [] rfl (by kernel_rfl) (fl_call rfl Try.call74 rfl (by kernel_rfl) (by kernel_rfl) (num_Meet_meets k11)) (oE tbok [] 2 (by kernel_rfl) (oL [] rfl (by kernel_rfl) (fl_call rfl Try.call75 rfl (by kernel_rfl) (by kernel_rfl) (num_Copy_meets k9)) (oE tbok [] 4 (by kernel_rfl) trivial))))) rfl rfl ty46 rfl rfl rfl rfl rfl rfl (putE 53 (.all rfl) rfl (by decide)) (SetAt.eq (.s (.s .z))) ?_
      refine d_store (wm [0, 0, 0, 0, 15, 0, 0, 127, 0, 255, 1023]) 10 rfl (by kernel_rfl) (by kernel_rfl) (by kernel_rfl) (by kernel_rfl) (by kernel_rfl) (gi0 rfl) (oN 1 (by kernel_rfl) (oE tbok [] 1 (by kernel_rfl) (oN 8 (by kernel_rfl) trivial))) rfl rfl ty120 rfl rfl rfl rfl rfl rfl (putE 2 (.all rfl) rfl (by decide)) (SetAt.eq (.s (.s (.s .z)))) ?_
      refine d_endS (env2 := [(9, [.c (.box 5 0)]), (8, [.c (.box 4 0)]), (7, [.c (.box 3 0)]), (6, [.c (.box 2 0)]), (3, [.c (.box 0 0)]), (1, [.c (.pv (.int .i64 a1))])]) (wm [0, 0, 0, 0, 15, 0, 0, 127, 0, 255, 1023]) (by kernel_rfl) (by kernel_rfl) (by kernel_rfl) (oN 11 (by kernel_rfl) trivial) (sub_cons rfl (sub_cons rfl (sub_cons rfl (sub_cons rfl (sub_cons rfl (sub_cons rfl sub_nil)))))) wT ?_
      refine then_ ?_
      refine ret_ ?_
      obtain rfl := retE h
      refine tR (rwr (rw_ (.cellA (ys := (bs (e_num_Num v9))) ty46 rfl rfl (by kernel_rfl) (by kernel_rfl) (.cellA (ys := [.pv (.bool v1.2.Overflow), .pv (.bool v1.2.DivZero)]) ty120 rfl rfl (by kernel_rfl) (by kernel_rfl) .nil)) ?_))
      refine w_none 0 .z ?_
      refine w_none 1 (.s .z) ?_
      refine w_none 2 (.s (.s .z)) ?_
      refine w_none 3 (.s (.s (.s .z))) ?_
      refine w_none 4 (.s (.s (.s (.s .z)))) ?_
      refine w_none 5 (.s (.s (.s (.s (.s .z))))) ?_
      refine w_cut 0 rfl rfl rfl rfl ?_
      exact wkE (by kernel_rfl) (by kernel_rfl)
    · have h := iteF h k7
      refine skip_ ?_
      refine then_ ?_
      refine seq_ ?_
      refine drawn_ mixed ?_
      refine dl (t := 42) 0 [.agg (bs (e_num_Num a0))] rfl ?_
      refine dl (t := 43) 1 [.c (.pv (.int .i64 a1))] rfl ?_
      refine dl (t := 44) 2 [.agg [.pv (.int .i64 v1.1.Lo), .pv (.int .i64 v1.1.Hi)]] rfl ?_
      obtain ⟨v11, k13, h⟩ := bindE h
      refine dl (t := 45) 3 [.agg (bs (e_num_Num v11))] rfl ?_
      refine dl (t := 46) 4 [.agg [.pv (.bool v1.2.Overflow), .pv (.bool v1.2.DivZero)]] rfl ?_
      refine d_store (wm [0, 0, 0, 7, 0, 15, 63]) 5 rfl (by kernel_rfl) (by kernel_rfl) (by kernel_rfl) (by kernel_rfl) (by kernel_rfl) (gi0 rfl) (oE tbok [] 1 (by kernel_rfl) (oL [] rfl (by kernel_rfl) (fl_call rfl Try.call21 rfl (by kernel_rfl) (by kernel_rfl) (num_Set_meets k13)) (oE tbok [] 3 (by kernel_rfl) trivial))) rfl rfl ty46 rfl rfl rfl rfl rfl rfl (putE 53 (.all rfl) rfl (by decide)) (SetAt.eq (.s (.s .z))) ?_
      refine d_store (wm [0, 0, 0, 7, 0, 15, 63]) 6 rfl (by kernel_rfl) (by kernel_rfl) (by kernel_rfl) (by kernel_rfl) (by kernel_rfl) (gi0 rfl) (oN 1 (by kernel_rfl) (oE tbok [] 1 (by kernel_rfl) (oN 4 (by kernel_rfl) trivial))) rfl rfl ty120 rfl rfl rfl rfl rfl rfl (putE 2 (.all rfl) rfl (by decide)) (SetAt.eq (.s (.s (.s .z)))) ?_
      refine d_endS (env2 := [(7, [.c (.box 3 0)]), (6, [.c (.box 2 0)])]) (wm [0, 0, 0, 7, 0, 15, 63]) (by kernel_rfl) (by kernel_rfl) (by kernel_rfl) (oN 7 (by kernel_rfl) trivial) (sub_cons rfl (sub_cons rfl sub_nil)) wT ?_
      refine then_ ?_
      refine ret_ ?_
      obtain rfl := retE h
      refine rwr (rw_ (.cellA (ys := (bs (e_num_Num v11))) ty46 rfl rfl (by kernel_rfl) (by kernel_rfl) (.cellA (ys := [.pv (.bool v1.2.Overflow), .pv (.bool v1.2.DivZero)]) ty120 rfl rfl (by kernel_rfl) (by kernel_rfl) .nil)) ?_)
      refine w_none 0 .z ?_
      refine w_none 1 (.s .z) ?_
      refine w_none 2 (.s (.s .z)) ?_
      refine w_none 3 (.s (.s (.s .z))) ?_
      refine w_none 4 (.s (.s (.s (.s .z)))) ?_
      refine w_none 5 (.s (.s (.s (.s (.s .z))))) ?_
      refine w_cut 0 rfl rfl rfl rfl ?_
      exact wkE (by kernel_rfl) (by kernel_rfl)

theorem trans_stepper_may_meets {a0 : trans_stepper} {a1 : itv_Errs} {r : trans_stepper} (h : trans_stepper_may a0 a1 = some r) : MeetsS Try.prog GG 57 [.c (.box 0 0), .agg [.pv (.bool a1.Overflow), .pv (.bool a1.DivZero)]] [some (.box true 94 ([.pv (.sl (List.map e_check_Chan a0.f_w.S.Chans)), .pv (.sl (List.map e_flow_Graph a0.f_w.S.Graphs)), .pv (.sl (List.map e_i64 a0.f_w.S.Vars)), .pv (.sl (List.map e_queue_Elem a0.f_w.Elems)), .pv (.sl (List.map e_bool a0.f_w.Deaf)), .pv (.int .i64 a0.f_proc), .pv (.sl (List.map e_i64 a0.f_out)), .pv (.int .i64 a0.f_at), .pv (.int .i64 a0.f_e.From), .pv (.int .i64 a0.f_e.To), .pv (.int .i64 a0.f_e.Kind), .pv (.int .i64 a0.f_e.Var), .pv (.int .i64 a0.f_e.Chan), .pv (.int .i64 a0.f_e.Tag), .pv (.int .i64 a0.f_e.E.Kind), .pv (.int .i64 a0.f_e.E.Num), .pv (.int .i64 a0.f_e.E.Var), .pv (.sl (List.map e_check_Expr a0.f_e.E.Kids)), .pv (.int .i64 a0.f_e.C.Op), .pv (.int .i64 a0.f_e.C.L.Kind), .pv (.int .i64 a0.f_e.C.L.Num), .pv (.int .i64 a0.f_e.C.L.Var), .pv (.sl (List.map e_check_Expr a0.f_e.C.L.Kids)), .pv (.int .i64 a0.f_e.C.R.Kind), .pv (.int .i64 a0.f_e.C.R.Num), .pv (.int .i64 a0.f_e.C.R.Var), .pv (.sl (List.map e_check_Expr a0.f_e.C.R.Kids)), .pv (.bool a0.f_a.N.None), .pv (.sl (List.map e_itv_Itv a0.f_a.N.I)), .pv (.int .i64 a0.f_a.N.Z.N), .pv (.bool a0.f_a.N.Z.None)] ++ (bs (e_T42 a0.f_a.N.Z.D) ++ ([.row 1, .row 2, .pv (.int .i64 a0.f_sent.Chan), .pv (.int .i64 a0.f_sent.Tag), .pv (.int .i64 a0.f_sent.Vals.Lo), .pv (.int .i64 a0.f_sent.Vals.Hi)] ++ bs (e_T92 a0.f_errors))))), some (.row true false 53 2 (List.map e_itv_Itv a0.f_a.Counts)), some (.row true false 85 1 (List.map e_rule_Set a0.f_a.Rules))] [] [some (.box true 94 ([.pv (.sl (List.map e_check_Chan r.f_w.S.Chans)), .pv (.sl (List.map e_flow_Graph r.f_w.S.Graphs)), .pv (.sl (List.map e_i64 r.f_w.S.Vars)), .pv (.sl (List.map e_queue_Elem r.f_w.Elems)), .pv (.sl (List.map e_bool r.f_w.Deaf)), .pv (.int .i64 r.f_proc), .pv (.sl (List.map e_i64 r.f_out)), .pv (.int .i64 r.f_at), .pv (.int .i64 r.f_e.From), .pv (.int .i64 r.f_e.To), .pv (.int .i64 r.f_e.Kind), .pv (.int .i64 r.f_e.Var), .pv (.int .i64 r.f_e.Chan), .pv (.int .i64 r.f_e.Tag), .pv (.int .i64 r.f_e.E.Kind), .pv (.int .i64 r.f_e.E.Num), .pv (.int .i64 r.f_e.E.Var), .pv (.sl (List.map e_check_Expr r.f_e.E.Kids)), .pv (.int .i64 r.f_e.C.Op), .pv (.int .i64 r.f_e.C.L.Kind), .pv (.int .i64 r.f_e.C.L.Num), .pv (.int .i64 r.f_e.C.L.Var), .pv (.sl (List.map e_check_Expr r.f_e.C.L.Kids)), .pv (.int .i64 r.f_e.C.R.Kind), .pv (.int .i64 r.f_e.C.R.Num), .pv (.int .i64 r.f_e.C.R.Var), .pv (.sl (List.map e_check_Expr r.f_e.C.R.Kids)), .pv (.bool r.f_a.N.None), .pv (.sl (List.map e_itv_Itv r.f_a.N.I)), .pv (.int .i64 r.f_a.N.Z.N), .pv (.bool r.f_a.N.Z.None)] ++ (bs (e_T42 r.f_a.N.Z.D) ++ ([.row 1, .row 2, .pv (.int .i64 r.f_sent.Chan), .pv (.int .i64 r.f_sent.Tag), .pv (.int .i64 r.f_sent.Vals.Lo), .pv (.int .i64 r.f_sent.Vals.Hi)] ++ bs (e_T92 r.f_errors))))), some (.row true true 53 2 (List.map e_itv_Itv r.f_a.Counts)), some (.row true true 85 1 (List.map e_rule_Set r.f_a.Rules))] := by
  refine meetsW_of (N := 30) r_trans_stepper_may o_trans_stepper_may r Try.func57 rfl rfl rfl (by dsimp only [argEnv]) rfl ?_
  unfold trans_stepper_may at h
  refine seq_ ?_
  refine region_ ?_
  refine B rfl rfl (bir_box rfl rfl rfl) rfl rfl (.s (.s (.s .z))) ?_
  refine ops_nil ?_
  refine then_ ?_
  refine seq_ ?_
  refine jn_ (fun (j1 : trans_stepper) => (⟨30, 3, [(0, [.c (.box 0 0)]), (3, [.c (.box 3 0)])], [some (.box true 94 ([.pv (.sl (List.map e_check_Chan j1.f_w.S.Chans)), .pv (.sl (List.map e_flow_Graph j1.f_w.S.Graphs)), .pv (.sl (List.map e_i64 j1.f_w.S.Vars)), .pv (.sl (List.map e_queue_Elem j1.f_w.Elems)), .pv (.sl (List.map e_bool j1.f_w.Deaf)), .pv (.int .i64 j1.f_proc), .pv (.sl (List.map e_i64 j1.f_out)), .pv (.int .i64 j1.f_at), .pv (.int .i64 j1.f_e.From), .pv (.int .i64 j1.f_e.To), .pv (.int .i64 j1.f_e.Kind), .pv (.int .i64 j1.f_e.Var), .pv (.int .i64 j1.f_e.Chan), .pv (.int .i64 j1.f_e.Tag), .pv (.int .i64 j1.f_e.E.Kind), .pv (.int .i64 j1.f_e.E.Num), .pv (.int .i64 j1.f_e.E.Var), .pv (.sl (List.map e_check_Expr j1.f_e.E.Kids)), .pv (.int .i64 j1.f_e.C.Op), .pv (.int .i64 j1.f_e.C.L.Kind), .pv (.int .i64 j1.f_e.C.L.Num), .pv (.int .i64 j1.f_e.C.L.Var), .pv (.sl (List.map e_check_Expr j1.f_e.C.L.Kids)), .pv (.int .i64 j1.f_e.C.R.Kind), .pv (.int .i64 j1.f_e.C.R.Num), .pv (.int .i64 j1.f_e.C.R.Var), .pv (.sl (List.map e_check_Expr j1.f_e.C.R.Kids)), .pv (.bool j1.f_a.N.None), .pv (.sl (List.map e_itv_Itv j1.f_a.N.I)), .pv (.int .i64 j1.f_a.N.Z.N), .pv (.bool j1.f_a.N.Z.None)] ++ (bs (e_T42 j1.f_a.N.Z.D) ++ ([.row 1, .row 2, .pv (.int .i64 j1.f_sent.Chan), .pv (.int .i64 j1.f_sent.Tag), .pv (.int .i64 j1.f_sent.Vals.Lo), .pv (.int .i64 j1.f_sent.Vals.Hi)] ++ bs (e_T92 j1.f_errors))))), some (.row true false 53 2 (List.map e_itv_Itv a0.f_a.Counts)), some (.row true false 85 1 (List.map e_rule_Set a0.f_a.Rules)), some (.box true 120 [.pv (.bool a1.Overflow), .pv (.bool a1.DivZero)])]⟩ : Sx)) h wT (fun o h => ?_) (fun j1 h => ?_)
  · refine drawn_ mixed ?_
    refine dl (t := 4) 0 [.c (.box 0 0)] rfl ?_
    refine dl (t := 5) 1 [.c (.box 0 0)] rfl ?_
    refine dl (t := 6) 2 [.c (.box 0 0)] rfl ?_
    refine dl (t := 7) 3 [.c (.box 0 86)] rfl ?_
    refine dl (t := 8) 4 [.c (.box 0 88)] rfl ?_
    refine dl (t := 9) 5 [.c (.pv (.bool (a0.f_errors 2)))] rfl ?_
    refine dl (t := 10) 6 [.c (.pv (.bool (a0.f_errors 2)))] rfl ?_
    refine (tf (a0.f_errors 2)).elim (fun k1 => ?_) (fun k1 => ?_)
    · have h := iteT h k1
      refine ds (t := 11) 7 rfl ?_
      refine ds (t := 12) 8 rfl ?_
      refine dl (t := 13) 9 [.c (.pv (.bool true))] rfl ?_
      refine dl (t := 14) 10 [.c (.box 0 0)] rfl ?_
      refine dl (t := 15) 11 [.c (.box 0 86)] rfl ?_
      refine dl (t := 16) 12 [.c (.box 0 88)] rfl ?_
      obtain ⟨v1, k2, h⟩ := bindE h
      refine d_store (cs' := ([.pv (.sl (List.map e_check_Chan v1.f_w.S.Chans)), .pv (.sl (List.map e_flow_Graph v1.f_w.S.Graphs)), .pv (.sl (List.map e_i64 v1.f_w.S.Vars)), .pv (.sl (List.map e_queue_Elem v1.f_w.Elems)), .pv (.sl (List.map e_bool v1.f_w.Deaf)), .pv (.int .i64 v1.f_proc), .pv (.sl (List.map e_i64 v1.f_out)), .pv (.int .i64 v1.f_at), .pv (.int .i64 v1.f_e.From), .pv (.int .i64 v1.f_e.To), .pv (.int .i64 v1.f_e.Kind), .pv (.int .i64 v1.f_e.Var), .pv (.int .i64 v1.f_e.Chan), .pv (.int .i64 v1.f_e.Tag), .pv (.int .i64 v1.f_e.E.Kind), .pv (.int .i64 v1.f_e.E.Num), .pv (.int .i64 v1.f_e.E.Var), .pv (.sl (List.map e_check_Expr v1.f_e.E.Kids)), .pv (.int .i64 v1.f_e.C.Op), .pv (.int .i64 v1.f_e.C.L.Kind), .pv (.int .i64 v1.f_e.C.L.Num), .pv (.int .i64 v1.f_e.C.L.Var), .pv (.sl (List.map e_check_Expr v1.f_e.C.L.Kids)), .pv (.int .i64 v1.f_e.C.R.Kind), .pv (.int .i64 v1.f_e.C.R.Num), .pv (.int .i64 v1.f_e.C.R.Var), .pv (.sl (List.map e_check_Expr v1.f_e.C.R.Kids)), .pv (.bool v1.f_a.N.None), .pv (.sl (List.map e_itv_Itv v1.f_a.N.I)), .pv (.int .i64 v1.f_a.N.Z.N), .pv (.bool v1.f_a.N.Z.None)] ++ (bs (e_T42 v1.f_a.N.Z.D) ++ ([.row 1, .row 2, .pv (.int .i64 v1.f_sent.Chan), .pv (.int .i64 v1.f_sent.Tag), .pv (.int .i64 v1.f_sent.Vals.Lo), .pv (.int .i64 v1.f_sent.Vals.Hi)] ++ bs (e_T92 v1.f_errors))))) (wm [0, 0, 2, 6, 14, 30, 62, 126, 254, 510, 1, 1025, 4095, 8191]) 13 rfl (by kernel_rfl) (by kernel_rfl) (by kernel_rfl) (by kernel_rfl) (by kernel_rfl) (gi0 rfl) (oL [] rfl (by kernel_rfl) (fl_lt (ia_box rfl u92 ty4 rfl rfl rfl 88 rfl)) (oE tbok [] 2 (by kernel_rfl) (oL [] rfl (by kernel_rfl) (fl_lt (lt_pickT rfl rfl k1 rfl)) (owF (by kernel_rfl) (fo_s [] rfl rfl rfl (by kernel_rfl) (by kernel_rfl) (by kernel_rfl) (gi1 rfl rfl rfl (beF k1))) (owF (by kernel_rfl) (fo_s [] rfl rfl rfl (by kernel_rfl) (by kernel_rfl) (by kernel_rfl) (gi1 rfl rfl rfl (beF k1))) (oE tbok [] 2 (by kernel_rfl) (oL [] rfl (by kernel_rfl) (fl_lt (ia_box rfl u92 ty4 rfl rfl rfl 88 rfl)) (oE tbok [] 4 (by kernel_rfl) trivial)))))))) rfl rfl ty4 rfl rfl rfl rfl rfl rfl (by rw [← retE k2]; kernel_rfl) (SetAt.eq .z) ?_
      refine d_endS (env2 := [(3, [.c (.box 3 0)]), (0, [.c (.box 0 0)])]) (wm [0, 0, 2, 6, 14, 30, 62, 126, 254, 510, 1, 1025, 4095, 8191]) (by kernel_rfl) (by kernel_rfl) (by kernel_rfl) (oN 14 (by kernel_rfl) trivial) (sub_cons rfl (sub_cons rfl sub_nil)) wM ?_
      obtain rfl := retE h
      refine mN ?_
      refine w_sub (env' := [(0, [.c (.box 0 0)]), (3, [.c (.box 3 0)])]) (sub_cons rfl (sub_cons rfl sub_nil)) ?_
      exact wkE (by kernel_rfl) (by kernel_rfl)
    · have h := iteF h k1
      refine dl (t := 11) 7 [.c (.box 3 0)] rfl ?_
      refine dl (t := 12) 8 [.c (.pv (.bool a1.Overflow))] rfl ?_
      refine dl (t := 13) 9 [.c (.pv (.bool a1.Overflow))] rfl ?_
      refine dl (t := 14) 10 [.c (.box 0 0)] rfl ?_
      refine dl (t := 15) 11 [.c (.box 0 86)] rfl ?_
      refine dl (t := 16) 12 [.c (.box 0 88)] rfl ?_
      obtain ⟨v2, k3, h⟩ := bindE h
      refine d_store (cs' := ([.pv (.sl (List.map e_check_Chan v2.f_w.S.Chans)), .pv (.sl (List.map e_flow_Graph v2.f_w.S.Graphs)), .pv (.sl (List.map e_i64 v2.f_w.S.Vars)), .pv (.sl (List.map e_queue_Elem v2.f_w.Elems)), .pv (.sl (List.map e_bool v2.f_w.Deaf)), .pv (.int .i64 v2.f_proc), .pv (.sl (List.map e_i64 v2.f_out)), .pv (.int .i64 v2.f_at), .pv (.int .i64 v2.f_e.From), .pv (.int .i64 v2.f_e.To), .pv (.int .i64 v2.f_e.Kind), .pv (.int .i64 v2.f_e.Var), .pv (.int .i64 v2.f_e.Chan), .pv (.int .i64 v2.f_e.Tag), .pv (.int .i64 v2.f_e.E.Kind), .pv (.int .i64 v2.f_e.E.Num), .pv (.int .i64 v2.f_e.E.Var), .pv (.sl (List.map e_check_Expr v2.f_e.E.Kids)), .pv (.int .i64 v2.f_e.C.Op), .pv (.int .i64 v2.f_e.C.L.Kind), .pv (.int .i64 v2.f_e.C.L.Num), .pv (.int .i64 v2.f_e.C.L.Var), .pv (.sl (List.map e_check_Expr v2.f_e.C.L.Kids)), .pv (.int .i64 v2.f_e.C.R.Kind), .pv (.int .i64 v2.f_e.C.R.Num), .pv (.int .i64 v2.f_e.C.R.Var), .pv (.sl (List.map e_check_Expr v2.f_e.C.R.Kids)), .pv (.bool v2.f_a.N.None), .pv (.sl (List.map e_itv_Itv v2.f_a.N.I)), .pv (.int .i64 v2.f_a.N.Z.N), .pv (.bool v2.f_a.N.Z.None)] ++ (bs (e_T42 v2.f_a.N.Z.D) ++ ([.row 1, .row 2, .pv (.int .i64 v2.f_sent.Chan), .pv (.int .i64 v2.f_sent.Tag), .pv (.int .i64 v2.f_sent.Vals.Lo), .pv (.int .i64 v2.f_sent.Vals.Hi)] ++ bs (e_T92 v2.f_errors))))) (wm [0, 0, 2, 6, 14, 30, 62, 126, 254, 510, 1, 1025, 4095, 8191]) 13 rfl (by kernel_rfl) (by kernel_rfl) (by kernel_rfl) (by kernel_rfl) (by kernel_rfl) (gi0 rfl) (oL [] rfl (by kernel_rfl) (fl_lt (ia_box rfl u92 ty4 rfl rfl rfl 88 rfl)) (oE tbok [] 2 (by kernel_rfl) (oL [] rfl (by kernel_rfl) (fl_lt (lt_pickF rfl rfl k1 rfl)) (owF (by kernel_rfl) (fo_l [] rfl rfl rfl (by kernel_rfl) (by kernel_rfl) (by kernel_rfl) (gi1 rfl rfl rfl (beT k1)) (fl_lt (lt_load_box rfl ty4 rfl rfl rfl))) (owF (by kernel_rfl) (fo_l [] rfl rfl rfl (by kernel_rfl) (by kernel_rfl) (by kernel_rfl) (gi1 rfl rfl rfl (beT k1)) (fl_lt (lt_fa_box rfl f120_0 ty4 (by decide) rfl))) (oE tbok [] 2 (by kernel_rfl) (oL [] rfl (by kernel_rfl) (fl_lt (ia_box rfl u92 ty4 rfl rfl rfl 88 rfl)) (oE tbok [] 4 (by kernel_rfl) trivial)))))))) rfl rfl ty4 rfl rfl rfl rfl rfl rfl (by rw [← retE k3]; kernel_rfl) (SetAt.eq .z) ?_
      refine d_endS (env2 := [(3, [.c (.box 3 0)]), (0, [.c (.box 0 0)])]) (wm [0, 0, 2, 6, 14, 30, 62, 126, 254, 510, 1, 1025, 4095, 8191]) (by kernel_rfl) (by kernel_rfl) (by kernel_rfl) (oN 14 (by kernel_rfl) trivial) (sub_cons rfl (sub_cons rfl sub_nil)) wM ?_
      obtain rfl := retE h
      refine mN ?_
      refine w_sub (env' := [(0, [.c (.box 0 0)]), (3, [.c (.box 3 0)])]) (sub_cons rfl (sub_cons rfl sub_nil)) ?_
      exact wkE (by kernel_rfl) (by kernel_rfl)
  · refine then_ ?_
    refine drawn_ mixed ?_
    refine dl (t := 17) 0 [.c (.box 0 0)] rfl ?_
    refine dl (t := 18) 1 [.c (.box 0 0)] rfl ?_
    refine dl (t := 19) 2 [.c (.box 0 0)] rfl ?_
    refine dl (t := 20) 3 [.c (.box 0 86)] rfl ?_
    refine dl (t := 21) 4 [.c (.box 0 89)] rfl ?_
    refine dl (t := 22) 5 [.c (.pv (.bool (j1.f_errors 3)))] rfl ?_
    refine dl (t := 23) 6 [.c (.pv (.bool (j1.f_errors 3)))] rfl ?_
    refine (tf (j1.f_errors 3)).elim (fun k4 => ?_) (fun k4 => ?_)
    · have h := iteT h k4
      refine ds (t := 24) 7 rfl ?_
      refine ds (t := 25) 8 rfl ?_
      refine dl (t := 26) 9 [.c (.pv (.bool true))] rfl ?_
      refine dl (t := 27) 10 [.c (.box 0 0)] rfl ?_
      refine dl (t := 28) 11 [.c (.box 0 86)] rfl ?_
      refine dl (t := 29) 12 [.c (.box 0 89)] rfl ?_
      obtain ⟨v3, k5, h⟩ := bindE h
      refine d_store (cs' := ([.pv (.sl (List.map e_check_Chan v3.f_w.S.Chans)), .pv (.sl (List.map e_flow_Graph v3.f_w.S.Graphs)), .pv (.sl (List.map e_i64 v3.f_w.S.Vars)), .pv (.sl (List.map e_queue_Elem v3.f_w.Elems)), .pv (.sl (List.map e_bool v3.f_w.Deaf)), .pv (.int .i64 v3.f_proc), .pv (.sl (List.map e_i64 v3.f_out)), .pv (.int .i64 v3.f_at), .pv (.int .i64 v3.f_e.From), .pv (.int .i64 v3.f_e.To), .pv (.int .i64 v3.f_e.Kind), .pv (.int .i64 v3.f_e.Var), .pv (.int .i64 v3.f_e.Chan), .pv (.int .i64 v3.f_e.Tag), .pv (.int .i64 v3.f_e.E.Kind), .pv (.int .i64 v3.f_e.E.Num), .pv (.int .i64 v3.f_e.E.Var), .pv (.sl (List.map e_check_Expr v3.f_e.E.Kids)), .pv (.int .i64 v3.f_e.C.Op), .pv (.int .i64 v3.f_e.C.L.Kind), .pv (.int .i64 v3.f_e.C.L.Num), .pv (.int .i64 v3.f_e.C.L.Var), .pv (.sl (List.map e_check_Expr v3.f_e.C.L.Kids)), .pv (.int .i64 v3.f_e.C.R.Kind), .pv (.int .i64 v3.f_e.C.R.Num), .pv (.int .i64 v3.f_e.C.R.Var), .pv (.sl (List.map e_check_Expr v3.f_e.C.R.Kids)), .pv (.bool v3.f_a.N.None), .pv (.sl (List.map e_itv_Itv v3.f_a.N.I)), .pv (.int .i64 v3.f_a.N.Z.N), .pv (.bool v3.f_a.N.Z.None)] ++ (bs (e_T42 v3.f_a.N.Z.D) ++ ([.row 1, .row 2, .pv (.int .i64 v3.f_sent.Chan), .pv (.int .i64 v3.f_sent.Tag), .pv (.int .i64 v3.f_sent.Vals.Lo), .pv (.int .i64 v3.f_sent.Vals.Hi)] ++ bs (e_T92 v3.f_errors))))) (wm [0, 0, 2, 6, 14, 30, 62, 126, 254, 510, 1, 1025, 4095, 8191]) 13 rfl (by kernel_rfl) (by kernel_rfl) (by kernel_rfl) (by kernel_rfl) (by kernel_rfl) (gi0 rfl) (oL [] rfl (by kernel_rfl) (fl_lt (ia_box rfl u92 ty4 rfl rfl rfl 89 rfl)) (oE tbok [] 2 (by kernel_rfl) (oL [] rfl (by kernel_rfl) (fl_lt (lt_pickT rfl rfl k4 rfl)) (owF (by kernel_rfl) (fo_s [] rfl rfl rfl (by kernel_rfl) (by kernel_rfl) (by kernel_rfl) (gi1 rfl rfl rfl (beF k4))) (owF (by kernel_rfl) (fo_s [] rfl rfl rfl (by kernel_rfl) (by kernel_rfl) (by kernel_rfl) (gi1 rfl rfl rfl (beF k4))) (oE tbok [] 2 (by kernel_rfl) (oL [] rfl (by kernel_rfl) (fl_lt (ia_box rfl u92 ty4 rfl rfl rfl 89 rfl)) (oE tbok [] 4 (by kernel_rfl) trivial)))))))) rfl rfl ty4 rfl rfl rfl rfl rfl rfl (by rw [← retE k5]; kernel_rfl) (SetAt.eq .z) ?_
      refine d_endS (env2 := []) (wm [0, 0, 2, 6, 14, 30, 62, 126, 254, 510, 1, 1025, 4095, 8191]) (by kernel_rfl) (by kernel_rfl) (by kernel_rfl) (oN 14 (by kernel_rfl) trivial) sub_nil wW ?_
      obtain rfl := retE h
      refine rwn .nil ?_
      refine w_none 3 (.s (.s (.s .z))) ?_
      refine w_ch 1 rfl (.s .z) ?_
      refine w_ch 2 rfl (.s (.s .z)) ?_
      refine w_cut 3 rfl rfl rfl rfl ?_
      exact wkE (by kernel_rfl) (by kernel_rfl)
    · have h := iteF h k4
      refine dl (t := 24) 7 [.c (.box 3 1)] rfl ?_
      refine dl (t := 25) 8 [.c (.pv (.bool a1.DivZero))] rfl ?_
      refine dl (t := 26) 9 [.c (.pv (.bool a1.DivZero))] rfl ?_
      refine dl (t := 27) 10 [.c (.box 0 0)] rfl ?_
      refine dl (t := 28) 11 [.c (.box 0 86)] rfl ?_
      refine dl (t := 29) 12 [.c (.box 0 89)] rfl ?_
      obtain ⟨v4, k6, h⟩ := bindE h
      refine d_store (cs' := ([.pv (.sl (List.map e_check_Chan v4.f_w.S.Chans)), .pv (.sl (List.map e_flow_Graph v4.f_w.S.Graphs)), .pv (.sl (List.map e_i64 v4.f_w.S.Vars)), .pv (.sl (List.map e_queue_Elem v4.f_w.Elems)), .pv (.sl (List.map e_bool v4.f_w.Deaf)), .pv (.int .i64 v4.f_proc), .pv (.sl (List.map e_i64 v4.f_out)), .pv (.int .i64 v4.f_at), .pv (.int .i64 v4.f_e.From), .pv (.int .i64 v4.f_e.To), .pv (.int .i64 v4.f_e.Kind), .pv (.int .i64 v4.f_e.Var), .pv (.int .i64 v4.f_e.Chan), .pv (.int .i64 v4.f_e.Tag), .pv (.int .i64 v4.f_e.E.Kind), .pv (.int .i64 v4.f_e.E.Num), .pv (.int .i64 v4.f_e.E.Var), .pv (.sl (List.map e_check_Expr v4.f_e.E.Kids)), .pv (.int .i64 v4.f_e.C.Op), .pv (.int .i64 v4.f_e.C.L.Kind), .pv (.int .i64 v4.f_e.C.L.Num), .pv (.int .i64 v4.f_e.C.L.Var), .pv (.sl (List.map e_check_Expr v4.f_e.C.L.Kids)), .pv (.int .i64 v4.f_e.C.R.Kind), .pv (.int .i64 v4.f_e.C.R.Num), .pv (.int .i64 v4.f_e.C.R.Var), .pv (.sl (List.map e_check_Expr v4.f_e.C.R.Kids)), .pv (.bool v4.f_a.N.None), .pv (.sl (List.map e_itv_Itv v4.f_a.N.I)), .pv (.int .i64 v4.f_a.N.Z.N), .pv (.bool v4.f_a.N.Z.None)] ++ (bs (e_T42 v4.f_a.N.Z.D) ++ ([.row 1, .row 2, .pv (.int .i64 v4.f_sent.Chan), .pv (.int .i64 v4.f_sent.Tag), .pv (.int .i64 v4.f_sent.Vals.Lo), .pv (.int .i64 v4.f_sent.Vals.Hi)] ++ bs (e_T92 v4.f_errors))))) (wm [0, 0, 2, 6, 14, 30, 62, 126, 254, 510, 1, 1025, 4095, 8191]) 13 rfl (by kernel_rfl) (by kernel_rfl) (by kernel_rfl) (by kernel_rfl) (by kernel_rfl) (gi0 rfl) (oL [] rfl (by kernel_rfl) (fl_lt (ia_box rfl u92 ty4 rfl rfl rfl 89 rfl)) (oE tbok [] 2 (by kernel_rfl) (oL [] rfl (by kernel_rfl) (fl_lt (lt_pickF rfl rfl k4 rfl)) (owF (by kernel_rfl) (fo_l [] rfl rfl rfl (by kernel_rfl) (by kernel_rfl) (by kernel_rfl) (gi1 rfl rfl rfl (beT k4)) (fl_lt (lt_load_box rfl ty4 rfl rfl rfl))) (owF (by kernel_rfl) (fo_l [] rfl rfl rfl (by kernel_rfl) (by kernel_rfl) (by kernel_rfl) (gi1 rfl rfl rfl (beT k4)) (fl_lt (lt_fa_box rfl f120_1 ty4 (by decide) rfl))) (oE tbok [] 2 (by kernel_rfl) (oL [] rfl (by kernel_rfl) (fl_lt (ia_box rfl u92 ty4 rfl rfl rfl 89 rfl)) (oE tbok [] 4 (by kernel_rfl) trivial)))))))) rfl rfl ty4 rfl rfl rfl rfl rfl rfl (by rw [← retE k6]; kernel_rfl) (SetAt.eq .z) ?_
      refine d_endS (env2 := []) (wm [0, 0, 2, 6, 14, 30, 62, 126, 254, 510, 1, 1025, 4095, 8191]) (by kernel_rfl) (by kernel_rfl) (by kernel_rfl) (oN 14 (by kernel_rfl) trivial) sub_nil wW ?_
      obtain rfl := retE h
      refine rwn .nil ?_
      refine w_none 3 (.s (.s (.s .z))) ?_
      refine w_ch 1 rfl (.s .z) ?_
      refine w_ch 2 rfl (.s (.s .z)) ?_
      refine w_cut 3 rfl rfl rfl rfl ?_
      exact wkE (by kernel_rfl) (by kernel_rfl)

theorem trans_stepper_assign_meets {a0 : trans_stepper} {r : trans_stepper} (h : trans_stepper_assign a0 = some r) : MeetsS Try.prog GG 41 [.c (.box 0 0)] [some (.box true 94 ([.pv (.sl (List.map e_check_Chan a0.f_w.S.Chans)), .pv (.sl (List.map e_flow_Graph a0.f_w.S.Graphs)), .pv (.sl (List.map e_i64 a0.f_w.S.Vars)), .pv (.sl (List.map e_queue_Elem a0.f_w.Elems)), .pv (.sl (List.map e_bool a0.f_w.Deaf)), .pv (.int .i64 a0.f_proc), .pv (.sl (List.map e_i64 a0.f_out)), .pv (.int .i64 a0.f_at), .pv (.int .i64 a0.f_e.From), .pv (.int .i64 a0.f_e.To), .pv (.int .i64 a0.f_e.Kind), .pv (.int .i64 a0.f_e.Var), .pv (.int .i64 a0.f_e.Chan), .pv (.int .i64 a0.f_e.Tag), .pv (.int .i64 a0.f_e.E.Kind), .pv (.int .i64 a0.f_e.E.Num), .pv (.int .i64 a0.f_e.E.Var), .pv (.sl (List.map e_check_Expr a0.f_e.E.Kids)), .pv (.int .i64 a0.f_e.C.Op), .pv (.int .i64 a0.f_e.C.L.Kind), .pv (.int .i64 a0.f_e.C.L.Num), .pv (.int .i64 a0.f_e.C.L.Var), .pv (.sl (List.map e_check_Expr a0.f_e.C.L.Kids)), .pv (.int .i64 a0.f_e.C.R.Kind), .pv (.int .i64 a0.f_e.C.R.Num), .pv (.int .i64 a0.f_e.C.R.Var), .pv (.sl (List.map e_check_Expr a0.f_e.C.R.Kids)), .pv (.bool a0.f_a.N.None), .pv (.sl (List.map e_itv_Itv a0.f_a.N.I)), .pv (.int .i64 a0.f_a.N.Z.N), .pv (.bool a0.f_a.N.Z.None)] ++ (bs (e_T42 a0.f_a.N.Z.D) ++ ([.row 1, .row 2, .pv (.int .i64 a0.f_sent.Chan), .pv (.int .i64 a0.f_sent.Tag), .pv (.int .i64 a0.f_sent.Vals.Lo), .pv (.int .i64 a0.f_sent.Vals.Hi)] ++ bs (e_T92 a0.f_errors))))), some (.row true false 53 2 (List.map e_itv_Itv a0.f_a.Counts)), some (.row true false 85 1 (List.map e_rule_Set a0.f_a.Rules))] [] [some (.box true 94 ([.pv (.sl (List.map e_check_Chan r.f_w.S.Chans)), .pv (.sl (List.map e_flow_Graph r.f_w.S.Graphs)), .pv (.sl (List.map e_i64 r.f_w.S.Vars)), .pv (.sl (List.map e_queue_Elem r.f_w.Elems)), .pv (.sl (List.map e_bool r.f_w.Deaf)), .pv (.int .i64 r.f_proc), .pv (.sl (List.map e_i64 r.f_out)), .pv (.int .i64 r.f_at), .pv (.int .i64 r.f_e.From), .pv (.int .i64 r.f_e.To), .pv (.int .i64 r.f_e.Kind), .pv (.int .i64 r.f_e.Var), .pv (.int .i64 r.f_e.Chan), .pv (.int .i64 r.f_e.Tag), .pv (.int .i64 r.f_e.E.Kind), .pv (.int .i64 r.f_e.E.Num), .pv (.int .i64 r.f_e.E.Var), .pv (.sl (List.map e_check_Expr r.f_e.E.Kids)), .pv (.int .i64 r.f_e.C.Op), .pv (.int .i64 r.f_e.C.L.Kind), .pv (.int .i64 r.f_e.C.L.Num), .pv (.int .i64 r.f_e.C.L.Var), .pv (.sl (List.map e_check_Expr r.f_e.C.L.Kids)), .pv (.int .i64 r.f_e.C.R.Kind), .pv (.int .i64 r.f_e.C.R.Num), .pv (.int .i64 r.f_e.C.R.Var), .pv (.sl (List.map e_check_Expr r.f_e.C.R.Kids)), .pv (.bool r.f_a.N.None), .pv (.sl (List.map e_itv_Itv r.f_a.N.I)), .pv (.int .i64 r.f_a.N.Z.N), .pv (.bool r.f_a.N.Z.None)] ++ (bs (e_T42 r.f_a.N.Z.D) ++ ([.row 1, .row 2, .pv (.int .i64 r.f_sent.Chan), .pv (.int .i64 r.f_sent.Tag), .pv (.int .i64 r.f_sent.Vals.Lo), .pv (.int .i64 r.f_sent.Vals.Hi)] ++ bs (e_T92 r.f_errors))))), some (.row true true 53 2 (List.map e_itv_Itv r.f_a.Counts)), some (.row true true 85 1 (List.map e_rule_Set r.f_a.Rules))] := by
  refine meetsW_of (N := 31) r_trans_stepper_assign o_trans_stepper_assign r Try.func41 rfl rfl rfl (by dsimp only [argEnv]) rfl ?_
  unfold trans_stepper_assign at h
  refine seq_ ?_
  refine drawn_ mixed ?_
  refine dl (t := 5) 0 [.c (.box 0 0)] rfl ?_
  refine dl (t := 6) 1 [.c (.box 0 0)] rfl ?_
  refine dl (t := 7) 2 [.c (.box 0 27)] rfl ?_
  refine dl (t := 8) 3 [.c (.box 0 27)] rfl ?_
  refine dl (t := 9) 4 [.agg (bs (e_num_Num a0.f_a.N))] rfl ?_
  refine dl (t := 10) 5 [.c (.box 0 0)] rfl ?_
  refine dl (t := 11) 6 [.c (.box 0 0)] rfl ?_
  refine dl (t := 12) 7 [.c (.box 0 8)] rfl ?_
  refine dl (t := 13) 8 [.c (.box 0 11)] rfl ?_
  refine dl (t := 14) 9 [.c (.pv (.int .i64 a0.f_e.Var))] rfl ?_
  refine dl (t := 15) 10 [.c (.box 0 0)] rfl ?_
  refine dl (t := 16) 11 [.c (.box 0 0)] rfl ?_
  refine dl (t := 17) 12 [.c (.box 0 8)] rfl ?_
  refine dl (t := 18) 13 [.c (.box 0 14)] rfl ?_
  refine dl (t := 19) 14 [.agg [.pv (.int .i64 a0.f_e.E.Kind), .pv (.int .i64 a0.f_e.E.Num), .pv (.int .i64 a0.f_e.E.Var), .pv (.sl (List.map e_check_Expr a0.f_e.E.Kids))]] rfl ?_
  obtain ⟨v2, k2, h⟩ := bindE h
  refine dl (t := 20) 15 [.agg (bs (e_num_Num v2.1)), .agg [.pv (.bool v2.2.Overflow), .pv (.bool v2.2.DivZero)]] rfl ?_
  refine dl (t := 4) 16 [.agg (bs (e_num_Num v2.1)), .agg [.pv (.bool v2.2.Overflow), .pv (.bool v2.2.DivZero)]] rfl ?_
  refine dl (t := 21) 17 [.agg (bs (e_num_Num v2.1))] rfl ?_
  refine dl (t := 22) 18 [.agg [.pv (.bool v2.2.Overflow), .pv (.bool v2.2.DivZero)]] rfl ?_
  refine db (t := 2) 19 3 [.c (.box 3 0)] ((.box true 46 ([.pv (.bool false), .emp, .pv (.int .i64 0), .pv (.bool false)] ++ bs (e_T42 (arr (arr 0 []) [(arr 0 [0, 0, 0, 0, 0, 0, 0]), (arr 0 [0, 0, 0, 0, 0, 0, 0]), (arr 0 [0, 0, 0, 0, 0, 0, 0]), (arr 0 [0, 0, 0, 0, 0, 0, 0]), (arr 0 [0, 0, 0, 0, 0, 0, 0]), (arr 0 [0, 0, 0, 0, 0, 0, 0]), (arr 0 [0, 0, 0, 0, 0, 0, 0])]))))) rfl rfl (Push.eq (.s (.s (.s .z)))) ?_
  refine db (t := 3) 20 4 [.c (.box 4 0)] ((.box true 120 [.pv (.bool false), .pv (.bool false)])) rfl rfl (Push.eq (.s (.s (.s (.s .z))))) ?_
  refine d_store (wm [0, 1, 3, 7, 15, 0, 32, 96, 224, 480, 0, 1024, 3072, 7168, 15360, 32767, 65535, 131071, 131071, 0, 0, 1835007, 4194303]) 21 rfl (by kernel_rfl) (by kernel_rfl) (by kernel_rfl) (by kernel_rfl) (by kernel_rfl) (gi0 rfl) (owF (by kernel_rfl) (fo_b [4, 3] rfl rfl rfl (by kernel_rfl) (by kernel_rfl) (by kernel_rfl) (gi0 rfl) (bir_alloc rfl z120 rfl rfl) (by kernel_rfl) (by kernel_rfl)) (owF (by kernel_rfl) (fo_b [4, 3] rfl rfl rfl (by kernel_rfl) (by kernel_rfl) (by kernel_rfl) (gi0 rfl) (bir_alloc rfl z46 rfl rfl) (by kernel_rfl) (by kernel_rfl)) (oE tbok [4, 3] 3 (by kernel_rfl) (oL [4, 3] rfl (by kernel_rfl) (fl_call rfl Try.call56 rfl (by kernel_rfl) (by kernel_rfl) (eval_Assign_meets k2)) (oE tbok [4, 3] 15 (by kernel_rfl) trivial))))) rfl rfl ty46 rfl rfl rfl rfl rfl rfl (putE 53 (.all rfl) rfl (by decide)) (SetAt.eq (.s (.s (.s .z)))) ?_
  refine d_store (wm [0, 1, 3, 7, 15, 0, 32, 96, 224, 480, 0, 1024, 3072, 7168, 15360, 32767, 65535, 131071, 131071, 0, 0, 1835007, 4194303]) 22 rfl (by kernel_rfl) (by kernel_rfl) (by kernel_rfl) (by kernel_rfl) (by kernel_rfl) (gi0 rfl) (oN 3 (by kernel_rfl) (oE tbok [4, 3] 1 (by kernel_rfl) (oN 18 (by kernel_rfl) trivial))) rfl rfl ty120 rfl rfl rfl rfl rfl rfl (putE 2 (.all rfl) rfl (by decide)) (SetAt.eq (.s (.s (.s (.s .z))))) ?_
  refine d_endS (env2 := [(3, [.c (.box 4 0)]), (2, [.c (.box 3 0)]), (0, [.c (.box 0 0)])]) (wm [0, 1, 3, 7, 15, 0, 32, 96, 224, 480, 0, 1024, 3072, 7168, 15360, 32767, 65535, 131071, 131071, 0, 0, 1835007, 4194303]) (by kernel_rfl) (by kernel_rfl) (by kernel_rfl) (oN 23 (by kernel_rfl) trivial) (sub_cons rfl (sub_cons rfl (sub_cons rfl sub_nil))) wT ?_
  refine then_ ?_
  refine seq_ ?_
  refine region_ ?_
  refine R tbok 5 [27, 24, 3, 0] [(27, [.c (.box 0 27)]), (24, [.agg (bs (e_num_Num v2.1))]), (3, [.c (.box 4 0)]), (0, [.c (.box 0 0)])] (by kernel_rfl) ?_
  obtain ⟨v3, k3, h⟩ := bindE h
  refine SD ([.pv (.sl (List.map e_check_Chan v3.f_w.S.Chans)), .pv (.sl (List.map e_flow_Graph v3.f_w.S.Graphs)), .pv (.sl (List.map e_i64 v3.f_w.S.Vars)), .pv (.sl (List.map e_queue_Elem v3.f_w.Elems)), .pv (.sl (List.map e_bool v3.f_w.Deaf)), .pv (.int .i64 v3.f_proc), .pv (.sl (List.map e_i64 v3.f_out)), .pv (.int .i64 v3.f_at), .pv (.int .i64 v3.f_e.From), .pv (.int .i64 v3.f_e.To), .pv (.int .i64 v3.f_e.Kind), .pv (.int .i64 v3.f_e.Var), .pv (.int .i64 v3.f_e.Chan), .pv (.int .i64 v3.f_e.Tag), .pv (.int .i64 v3.f_e.E.Kind), .pv (.int .i64 v3.f_e.E.Num), .pv (.int .i64 v3.f_e.E.Var), .pv (.sl (List.map e_check_Expr v3.f_e.E.Kids)), .pv (.int .i64 v3.f_e.C.Op), .pv (.int .i64 v3.f_e.C.L.Kind), .pv (.int .i64 v3.f_e.C.L.Num), .pv (.int .i64 v3.f_e.C.L.Var), .pv (.sl (List.map e_check_Expr v3.f_e.C.L.Kids)), .pv (.int .i64 v3.f_e.C.R.Kind), .pv (.int .i64 v3.f_e.C.R.Num), .pv (.int .i64 v3.f_e.C.R.Var), .pv (.sl (List.map e_check_Expr v3.f_e.C.R.Kids)), .pv (.bool v3.f_a.N.None), .pv (.sl (List.map e_itv_Itv v3.f_a.N.I)), .pv (.int .i64 v3.f_a.N.Z.N), .pv (.bool v3.f_a.N.Z.None)] ++ (bs (e_T42 v3.f_a.N.Z.D) ++ ([.row 1, .row 2, .pv (.int .i64 v3.f_sent.Chan), .pv (.int .i64 v3.f_sent.Tag), .pv (.int .i64 v3.f_sent.Vals.Lo), .pv (.int .i64 v3.f_sent.Vals.Hi)] ++ bs (e_T92 v3.f_errors)))) rfl rfl rfl ty46 (by decide) rfl rfl rfl rfl rfl (Nat.le_of_ble_eq_true rfl) (by rw [← retE k3]; kernel_rfl) (SetAt.eq .z) ?_
  refine ops_nil ?_
  refine then_ ?_
  refine region_ ?_
  refine R tbok 2 [29, 28] [(29, [.agg [.pv (.bool v2.2.Overflow), .pv (.bool v2.2.DivZero)]]), (28, [.c (.box 0 0)])] (by kernel_rfl) ?_
  obtain ⟨v4, k4, h⟩ := bindE h
  refine callS (env' := [(29, [.agg [.pv (.bool v2.2.Overflow), .pv (.bool v2.2.DivZero)]]), (28, [.c (.box 0 0)])]) (argsX' := []) (st' := [some (.box true 94 ([.pv (.sl (List.map e_check_Chan v4.f_w.S.Chans)), .pv (.sl (List.map e_flow_Graph v4.f_w.S.Graphs)), .pv (.sl (List.map e_i64 v4.f_w.S.Vars)), .pv (.sl (List.map e_queue_Elem v4.f_w.Elems)), .pv (.sl (List.map e_bool v4.f_w.Deaf)), .pv (.int .i64 v4.f_proc), .pv (.sl (List.map e_i64 v4.f_out)), .pv (.int .i64 v4.f_at), .pv (.int .i64 v4.f_e.From), .pv (.int .i64 v4.f_e.To), .pv (.int .i64 v4.f_e.Kind), .pv (.int .i64 v4.f_e.Var), .pv (.int .i64 v4.f_e.Chan), .pv (.int .i64 v4.f_e.Tag), .pv (.int .i64 v4.f_e.E.Kind), .pv (.int .i64 v4.f_e.E.Num), .pv (.int .i64 v4.f_e.E.Var), .pv (.sl (List.map e_check_Expr v4.f_e.E.Kids)), .pv (.int .i64 v4.f_e.C.Op), .pv (.int .i64 v4.f_e.C.L.Kind), .pv (.int .i64 v4.f_e.C.L.Num), .pv (.int .i64 v4.f_e.C.L.Var), .pv (.sl (List.map e_check_Expr v4.f_e.C.L.Kids)), .pv (.int .i64 v4.f_e.C.R.Kind), .pv (.int .i64 v4.f_e.C.R.Num), .pv (.int .i64 v4.f_e.C.R.Var), .pv (.sl (List.map e_check_Expr v4.f_e.C.R.Kids)), .pv (.bool v4.f_a.N.None), .pv (.sl (List.map e_itv_Itv v4.f_a.N.I)), .pv (.int .i64 v4.f_a.N.Z.N), .pv (.bool v4.f_a.N.Z.None)] ++ (bs (e_T42 v4.f_a.N.Z.D) ++ ([.row 1, .row 2, .pv (.int .i64 v4.f_sent.Chan), .pv (.int .i64 v4.f_sent.Tag), .pv (.int .i64 v4.f_sent.Vals.Lo), .pv (.int .i64 v4.f_sent.Vals.Hi)] ++ bs (e_T92 v4.f_errors))))), some (.row true true 53 2 (List.map e_itv_Itv v4.f_a.Counts)), some (.row true true 85 1 (List.map e_rule_Set v4.f_a.Rules)), some (.box true 46 (bs (e_num_Num v2.1))), some (.box true 120 [.pv (.bool v2.2.Overflow), .pv (.bool v2.2.DivZero)])]) [0, 1, 2] [] rfl rfl rfl rfl Try.call57 rfl rfl (by kernel_rfl) (by kernel_rfl) (trans_stepper_may_meets k4) (by kernel_rfl) (by kernel_rfl) (by kernel_rfl) ?_
  refine ops_nil ?_
  obtain rfl := retE h
  refine rwn .nil ?_
  refine w_none 3 (.s (.s (.s .z))) ?_
  refine w_none 4 (.s (.s (.s (.s .z)))) ?_
  refine w_cut 3 rfl rfl rfl rfl ?_
  exact wkE (by kernel_rfl) (by kernel_rfl)

theorem trans_stepper_room_meets {a0 : trans_stepper} {a1 : check_Chan} {a2 : itv_Itv} {r : itv_Itv} (h : trans_stepper_room a0 a1 a2 = some r) : MeetsS Try.prog GG 61 [.c (.box 0 0), .agg [.pv (.int .i64 a1.Kind), .pv (.int .i64 a1.Size), .pv (.int .i64 a1.From), .pv (.int .i64 a1.To), .pv (.int .i64 a1.Tags), .pv (.sl (List.map e_sl33 a1.Rule))], .agg [.pv (.int .i64 a2.Lo), .pv (.int .i64 a2.Hi)]] [some (.box false 94 ([.pv (.sl (List.map e_check_Chan a0.f_w.S.Chans)), .pv (.sl (List.map e_flow_Graph a0.f_w.S.Graphs)), .pv (.sl (List.map e_i64 a0.f_w.S.Vars)), .pv (.sl (List.map e_queue_Elem a0.f_w.Elems)), .pv (.sl (List.map e_bool a0.f_w.Deaf)), .pv (.int .i64 a0.f_proc), .pv (.sl (List.map e_i64 a0.f_out)), .pv (.int .i64 a0.f_at), .pv (.int .i64 a0.f_e.From), .pv (.int .i64 a0.f_e.To), .pv (.int .i64 a0.f_e.Kind), .pv (.int .i64 a0.f_e.Var), .pv (.int .i64 a0.f_e.Chan), .pv (.int .i64 a0.f_e.Tag), .pv (.int .i64 a0.f_e.E.Kind), .pv (.int .i64 a0.f_e.E.Num), .pv (.int .i64 a0.f_e.E.Var), .pv (.sl (List.map e_check_Expr a0.f_e.E.Kids)), .pv (.int .i64 a0.f_e.C.Op), .pv (.int .i64 a0.f_e.C.L.Kind), .pv (.int .i64 a0.f_e.C.L.Num), .pv (.int .i64 a0.f_e.C.L.Var), .pv (.sl (List.map e_check_Expr a0.f_e.C.L.Kids)), .pv (.int .i64 a0.f_e.C.R.Kind), .pv (.int .i64 a0.f_e.C.R.Num), .pv (.int .i64 a0.f_e.C.R.Var), .pv (.sl (List.map e_check_Expr a0.f_e.C.R.Kids)), .pv (.bool a0.f_a.N.None), .pv (.sl (List.map e_itv_Itv a0.f_a.N.I)), .pv (.int .i64 a0.f_a.N.Z.N), .pv (.bool a0.f_a.N.Z.None)] ++ (bs (e_T42 a0.f_a.N.Z.D) ++ ([.row 1, .row 2, .pv (.int .i64 a0.f_sent.Chan), .pv (.int .i64 a0.f_sent.Tag), .pv (.int .i64 a0.f_sent.Vals.Lo), .pv (.int .i64 a0.f_sent.Vals.Hi)] ++ bs (e_T92 a0.f_errors))))), some (.row false false 53 2 (List.map e_itv_Itv a0.f_a.Counts)), some (.row false false 85 1 (List.map e_rule_Set a0.f_a.Rules))] [.agg [.pv (.int .i64 r.Lo), .pv (.int .i64 r.Hi)]] [some (.box false 94 ([.pv (.sl (List.map e_check_Chan a0.f_w.S.Chans)), .pv (.sl (List.map e_flow_Graph a0.f_w.S.Graphs)), .pv (.sl (List.map e_i64 a0.f_w.S.Vars)), .pv (.sl (List.map e_queue_Elem a0.f_w.Elems)), .pv (.sl (List.map e_bool a0.f_w.Deaf)), .pv (.int .i64 a0.f_proc), .pv (.sl (List.map e_i64 a0.f_out)), .pv (.int .i64 a0.f_at), .pv (.int .i64 a0.f_e.From), .pv (.int .i64 a0.f_e.To), .pv (.int .i64 a0.f_e.Kind), .pv (.int .i64 a0.f_e.Var), .pv (.int .i64 a0.f_e.Chan), .pv (.int .i64 a0.f_e.Tag), .pv (.int .i64 a0.f_e.E.Kind), .pv (.int .i64 a0.f_e.E.Num), .pv (.int .i64 a0.f_e.E.Var), .pv (.sl (List.map e_check_Expr a0.f_e.E.Kids)), .pv (.int .i64 a0.f_e.C.Op), .pv (.int .i64 a0.f_e.C.L.Kind), .pv (.int .i64 a0.f_e.C.L.Num), .pv (.int .i64 a0.f_e.C.L.Var), .pv (.sl (List.map e_check_Expr a0.f_e.C.L.Kids)), .pv (.int .i64 a0.f_e.C.R.Kind), .pv (.int .i64 a0.f_e.C.R.Num), .pv (.int .i64 a0.f_e.C.R.Var), .pv (.sl (List.map e_check_Expr a0.f_e.C.R.Kids)), .pv (.bool a0.f_a.N.None), .pv (.sl (List.map e_itv_Itv a0.f_a.N.I)), .pv (.int .i64 a0.f_a.N.Z.N), .pv (.bool a0.f_a.N.Z.None)] ++ (bs (e_T42 a0.f_a.N.Z.D) ++ ([.row 1, .row 2, .pv (.int .i64 a0.f_sent.Chan), .pv (.int .i64 a0.f_sent.Tag), .pv (.int .i64 a0.f_sent.Vals.Lo), .pv (.int .i64 a0.f_sent.Vals.Hi)] ++ bs (e_T92 a0.f_errors))))), some (.row false false 53 2 (List.map e_itv_Itv a0.f_a.Counts)), some (.row false false 85 1 (List.map e_rule_Set a0.f_a.Rules))] := by
  refine meetsW_of (N := 32) r_trans_stepper_room (o_trans_stepper_room a0) r Try.func61 rfl rfl rfl (by dsimp only [argEnv]) rfl ?_
  unfold trans_stepper_room at h
  refine seq_ ?_
  refine region_ ?_
  refine B rfl rfl (bir_box rfl rfl rfl) rfl rfl (.s (.s (.s .z))) ?_
  refine B rfl rfl (bir_box rfl rfl rfl) rfl rfl (.s (.s (.s (.s .z)))) ?_
  refine B rfl rfl (bir_alloc rfl z53 rfl rfl) rfl rfl (.s (.s (.s (.s (.s .z))))) ?_
  refine ops_nil ?_
  refine then_ ?_
  refine seq_ ?_
  refine seq_ ?_
  refine jn_ (fun (j1 : Bool) => (⟨32, 3, [(4, [.c (.box 3 0)]), (5, [.c (.box 4 0)]), (6, [.c (.box 5 0)]), (24, [.c (.pv (.bool j1))])], [some (.box false 94 ([.pv (.sl (List.map e_check_Chan a0.f_w.S.Chans)), .pv (.sl (List.map e_flow_Graph a0.f_w.S.Graphs)), .pv (.sl (List.map e_i64 a0.f_w.S.Vars)), .pv (.sl (List.map e_queue_Elem a0.f_w.Elems)), .pv (.sl (List.map e_bool a0.f_w.Deaf)), .pv (.int .i64 a0.f_proc), .pv (.sl (List.map e_i64 a0.f_out)), .pv (.int .i64 a0.f_at), .pv (.int .i64 a0.f_e.From), .pv (.int .i64 a0.f_e.To), .pv (.int .i64 a0.f_e.Kind), .pv (.int .i64 a0.f_e.Var), .pv (.int .i64 a0.f_e.Chan), .pv (.int .i64 a0.f_e.Tag), .pv (.int .i64 a0.f_e.E.Kind), .pv (.int .i64 a0.f_e.E.Num), .pv (.int .i64 a0.f_e.E.Var), .pv (.sl (List.map e_check_Expr a0.f_e.E.Kids)), .pv (.int .i64 a0.f_e.C.Op), .pv (.int .i64 a0.f_e.C.L.Kind), .pv (.int .i64 a0.f_e.C.L.Num), .pv (.int .i64 a0.f_e.C.L.Var), .pv (.sl (List.map e_check_Expr a0.f_e.C.L.Kids)), .pv (.int .i64 a0.f_e.C.R.Kind), .pv (.int .i64 a0.f_e.C.R.Num), .pv (.int .i64 a0.f_e.C.R.Var), .pv (.sl (List.map e_check_Expr a0.f_e.C.R.Kids)), .pv (.bool a0.f_a.N.None), .pv (.sl (List.map e_itv_Itv a0.f_a.N.I)), .pv (.int .i64 a0.f_a.N.Z.N), .pv (.bool a0.f_a.N.Z.None)] ++ (bs (e_T42 a0.f_a.N.Z.D) ++ ([.row 1, .row 2, .pv (.int .i64 a0.f_sent.Chan), .pv (.int .i64 a0.f_sent.Tag), .pv (.int .i64 a0.f_sent.Vals.Lo), .pv (.int .i64 a0.f_sent.Vals.Hi)] ++ bs (e_T92 a0.f_errors))))), some (.row false false 53 2 (List.map e_itv_Itv a0.f_a.Counts)), some (.row false false 85 1 (List.map e_rule_Set a0.f_a.Rules)), some (.box true 73 [.pv (.int .i64 a1.Kind), .pv (.int .i64 a1.Size), .pv (.int .i64 a1.From), .pv (.int .i64 a1.To), .pv (.int .i64 a1.Tags), .pv (.sl (List.map e_sl33 a1.Rule))]), some (.box true 53 [.pv (.int .i64 a2.Lo), .pv (.int .i64 a2.Hi)]), some (.box true 53 [.pv (.int .i64 0), .pv (.int .i64 0)])]⟩ : Sx)) h wT (fun o h => ?_) (fun j1 h => ?_)
  · refine drawn_ mixed ?_
    refine dl (t := 7) 0 [.c (.box 3 0)] rfl ?_
    refine dl (t := 8) 1 [.c (.pv (.int .i64 a1.Kind))] rfl ?_
    refine dl (t := 9) 2 [.c (.pv (.bool (a1.Kind == 2)))] rfl ?_
    refine dl (t := 10) 3 [.c (.pv (.bool (a1.Kind == 2)))] rfl ?_
    refine (tf (a1.Kind == 2)).elim (fun k1 => ?_) (fun k1 => ?_)
    · have h := iteT h k1
      refine ds (t := 11) 4 rfl ?_
      refine ds (t := 12) 5 rfl ?_
      refine ds (t := 13) 6 rfl ?_
      refine ds (t := 14) 7 rfl ?_
      refine ds (t := 15) 8 rfl ?_
      refine ds (t := 16) 9 rfl ?_
      refine ds (t := 17) 10 rfl ?_
      refine ds (t := 18) 11 rfl ?_
      refine ds (t := 19) 12 rfl ?_
      refine ds (t := 20) 13 rfl ?_
      refine ds (t := 21) 14 rfl ?_
      refine ds (t := 22) 15 rfl ?_
      refine ds (t := 23) 16 rfl ?_
      refine dl (t := 24) 17 [.c (.pv (.bool true))] rfl ?_
      refine d_endS (env2 := [(24, [.c (.pv (.bool true))]), (6, [.c (.box 5 0)]), (5, [.c (.box 4 0)]), (4, [.c (.box 3 0)])]) (wm [0, 1, 3, 7, 15, 31, 63, 127, 255, 15, 527, 1551, 3599, 7695, 16383, 32767, 65535, 131071]) (by kernel_rfl) (by kernel_rfl) (by kernel_rfl) (oL [] rfl (by kernel_rfl) (fl_lt (lt_pickT rfl rfl k1 rfl)) (owF (by kernel_rfl) (fo_s [] rfl rfl rfl (by kernel_rfl) (by kernel_rfl) (by kernel_rfl) (gi1 rfl rfl rfl (beF k1))) (owF (by kernel_rfl) (fo_s [] rfl rfl rfl (by kernel_rfl) (by kernel_rfl) (by kernel_rfl) (gi1 rfl rfl rfl (beF k1))) (owF (by kernel_rfl) (fo_s [] rfl rfl rfl (by kernel_rfl) (by kernel_rfl) (by kernel_rfl) (gi1 rfl rfl rfl (beF k1))) (owF (by kernel_rfl) (fo_s [] rfl rfl rfl (by kernel_rfl) (by kernel_rfl) (by kernel_rfl) (gi1 rfl rfl rfl (beF k1))) (owF (by kernel_rfl) (fo_s [] rfl rfl rfl (by kernel_rfl) (by kernel_rfl) (by kernel_rfl) (gi1 rfl rfl rfl (beF k1))) (owF (by kernel_rfl) (fo_s [] rfl rfl rfl (by kernel_rfl) (by kernel_rfl) (by kernel_rfl) (gi1 rfl rfl rfl (beF k1))) (owF (by kernel_rfl) (fo_s [] rfl rfl rfl (by kernel_rfl) (by kernel_rfl) (by kernel_rfl) (gi1 rfl rfl rfl (beF k1))) (owF (by kernel_rfl) (fo_s [] rfl rfl rfl (by kernel_rfl) (by kernel_rfl) (by kernel_rfl) (gi1 rfl rfl rfl (beF k1))) (owF (by kernel_rfl) (fo_s [] rfl rfl rfl (by kernel_rfl) (by kernel_rfl) (by kernel_rfl) (gi1 rfl rfl rfl (beF k1))) (owF (by kernel_rfl) (fo_s [] rfl rfl rfl (by kernel_rfl) (by kernel_rfl) (by kernel_rfl) (gi1 rfl rfl rfl (beF k1))) (owF (by kernel_rfl) (fo_s [] rfl rfl rfl (by kernel_rfl) (by kernel_rfl) (by kernel_rfl) (gi1 rfl rfl rfl (beF k1))) (owF (by kernel_rfl) (fo_s [] rfl rfl rfl (by kernel_rfl) (by kernel_rfl) (by kernel_rfl) (gi1 rfl rfl rfl (beF k1))) (owF (by kernel_rfl) (fo_s [] rfl rfl rfl (by kernel_rfl) (by kernel_rfl) (by kernel_rfl) (gi1 rfl rfl rfl (beF k1))) (oE tbok [] 4 (by kernel_rfl) trivial))))))))))))))) (sub_cons rfl (sub_cons rfl (sub_cons rfl (sub_cons rfl sub_nil)))) wM ?_
      obtain rfl := retE h
      refine mN ?_
      refine w_sub (env' := [(4, [.c (.box 3 0)]), (5, [.c (.box 4 0)]), (6, [.c (.box 5 0)]), (24, [.c (.pv (.bool true))])]) (sub_cons rfl (sub_cons rfl (sub_cons rfl (sub_cons rfl sub_nil)))) ?_
      exact wkE (by kernel_rfl) (by kernel_rfl)
    · have h := iteF h k1
      refine dl (t := 11) 4 [.c (.box 0 0)] rfl ?_
      refine dl (t := 12) 5 [.c (.box 0 0)] rfl ?_
      refine dl (t := 13) 6 [.c (.box 0 0)] rfl ?_
      refine dl (t := 14) 7 [.c (.box 0 4)] rfl ?_
      refine dl (t := 15) 8 [.c (.pv (.sl (List.map e_bool a0.f_w.Deaf)))] rfl ?_
      refine dl (t := 16) 9 [.c (.box 0 0)] rfl ?_
      refine dl (t := 17) 10 [.c (.box 0 0)] rfl ?_
      refine dl (t := 18) 11 [.c (.box 0 8)] rfl ?_
      refine dl (t := 19) 12 [.c (.box 0 12)] rfl ?_
      refine dl (t := 20) 13 [.c (.pv (.int .i64 a0.f_e.Chan))] rfl ?_
      obtain ⟨v1, k2, h⟩ := bindE h
      refine dl (t := 21) 14 [.c (.ep [.bool v1])] rfl ?_
      refine dl (t := 22) 15 [.c (.pv (.bool v1))] rfl ?_
      refine dl (t := 23) 16 [.c (.pv (.bool (!v1)))] rfl ?_
      refine dl (t := 24) 17 [.c (.pv (.bool (!v1)))] rfl ?_
      refine d_endS (env2 := [(24, [.c (.pv (.bool (!v1)))]), (6, [.c (.box 5 0)]), (5, [.c (.box 4 0)]), (4, [.c (.box 3 0)])]) (wm [0, 1, 3, 7, 15, 31, 63, 127, 255, 15, 527, 1551, 3599, 7695, 16383, 32767, 65535, 131071]) (by kernel_rfl) (by kernel_rfl) (by kernel_rfl) (oL [] rfl (by kernel_rfl) (fl_lt (lt_pickF rfl rfl k1 rfl)) (owF (by kernel_rfl) (fo_l [] rfl rfl rfl (by kernel_rfl) (by kernel_rfl) (by kernel_rfl) (gi1 rfl rfl rfl (beT k1)) (fl_lt (lt_not rfl rfl))) (owF (by kernel_rfl) (fo_l [] rfl rfl rfl (by kernel_rfl) (by kernel_rfl) (by kernel_rfl) (gi1 rfl rfl rfl (beT k1)) (fl_lt (lt_load_ep rfl ty4 rfl))) (owF (by kernel_rfl) (fo_l [] rfl rfl rfl (by kernel_rfl) (by kernel_rfl) (by kernel_rfl) (gi1 rfl rfl rfl (beT k1)) (fl_lt (ia_sl (e := e_bool) (y := v1) rfl u59 ty4 rfl rfl k2 rfl))) (owF (by kernel_rfl) (fo_l [] rfl rfl rfl (by kernel_rfl) (by kernel_rfl) (by kernel_rfl) (gi1 rfl rfl rfl (beT k1)) (fl_lt (lt_load_box rfl ty3 rfl rfl rfl))) (owF (by kernel_rfl) (fo_l [] rfl rfl rfl (by kernel_rfl) (by kernel_rfl) (by kernel_rfl) (gi1 rfl rfl rfl (beT k1)) (fl_lt (lt_fa_box rfl f31_4 ty3 (by decide) rfl))) (owF (by kernel_rfl) (fo_l [] rfl rfl rfl (by kernel_rfl) (by kernel_rfl) (by kernel_rfl) (gi1 rfl rfl rfl (beT k1)) (fl_lt (lt_fa_box rfl f94_4 ty31 (by decide) rfl))) (owF (by kernel_rfl) (fo_l [] rfl rfl rfl (by kernel_rfl) (by kernel_rfl) (by kernel_rfl) (gi1 rfl rfl rfl (beT k1)) (fl_lt (lt_nilCheck rfl rfl trivial))) (owF (by kernel_rfl) (fo_l [] rfl rfl rfl (by kernel_rfl) (by kernel_rfl) (by kernel_rfl) (gi1 rfl rfl rfl (beT k1)) (fl_lt (lt_move rfl rfl))) (owF (by kernel_rfl) (fo_l [] rfl rfl rfl (by kernel_rfl) (by kernel_rfl) (by kernel_rfl) (gi1 rfl rfl rfl (beT k1)) (fl_lt (lt_load_box rfl ty59 rfl rfl rfl))) (owF (by kernel_rfl) (fo_l [] rfl rfl rfl (by kernel_rfl) (by kernel_rfl) (by kernel_rfl) (gi1 rfl rfl rfl (beT k1)) (fl_lt (lt_fa_box rfl f61_2 ty59 (by decide) rfl))) (owF (by kernel_rfl) (fo_l [] rfl rfl rfl (by kernel_rfl) (by kernel_rfl) (by kernel_rfl) (gi1 rfl rfl rfl (beT k1)) (fl_lt (lt_fa_box rfl f94_0 ty61 (by decide) rfl))) (owF (by kernel_rfl) (fo_l [] rfl rfl rfl (by kernel_rfl) (by kernel_rfl) (by kernel_rfl) (gi1 rfl rfl rfl (beT k1)) (fl_lt (lt_nilCheck rfl rfl trivial))) (owF (by kernel_rfl) (fo_l [] rfl rfl rfl (by kernel_rfl) (by kernel_rfl) (by kernel_rfl) (gi1 rfl rfl rfl (beT k1)) (fl_lt (lt_move rfl rfl))) (oE tbok [] 4 (by kernel_rfl) trivial))))))))))))))) (sub_cons rfl (sub_cons rfl (sub_cons rfl (sub_cons rfl sub_nil)))) wM ?_
      obtain rfl := retE h
      refine mN ?_
      refine w_sub (env' := [(4, [.c (.box 3 0)]), (5, [.c (.box 4 0)]), (6, [.c (.box 5 0)]), (24, [.c (.pv (.bool (!v1)))])]) (sub_cons rfl (sub_cons rfl (sub_cons rfl (sub_cons rfl sub_nil)))) ?_
      exact wkE (by kernel_rfl) (by kernel_rfl)
  · refine then_ ?_
    refine cond_ (b := j1) rfl (fun k3 => ?_) (fun k3 => ?_)
    · have h := iteT h k3
      refine seq_ ?_
      refine region_ ?_
      refine R tbok 1 [25, 4, 5, 6] [(25, [.agg [.pv (.int .i64 a2.Lo), .pv (.int .i64 a2.Hi)]]), (4, [.c (.box 3 0)]), (5, [.c (.box 4 0)]), (6, [.c (.box 5 0)])] (by kernel_rfl) ?_
      refine S rfl rfl rfl ty53 (by decide) rfl rfl rfl rfl rfl (.all rfl) (.s (.s (.s (.s (.s .z))))) ?_
      refine ops_nil ?_
      refine then_ ?_
      refine ret_ ?_
      obtain rfl := retE h
      refine tR (rwr (rw_ (.cellA (ys := [.pv (.int .i64 a2.Lo), .pv (.int .i64 a2.Hi)]) ty53 rfl rfl (by kernel_rfl) (by kernel_rfl) .nil) ?_))
      refine w_none 3 (.s (.s (.s .z))) ?_
      refine w_none 4 (.s (.s (.s (.s .z)))) ?_
      refine w_none 5 (.s (.s (.s (.s (.s .z))))) ?_
      refine w_cut 3 rfl rfl rfl rfl ?_
      exact wkE (by kernel_rfl) (by kernel_rfl)
    · have h := iteF h k3
      refine skip_ ?_
      refine then_ ?_
      refine seq_ ?_
      refine drawn_ mixed ?_
      refine dl (t := 26) 0 [.agg [.pv (.int .i64 a2.Lo), .pv (.int .i64 a2.Hi)]] rfl ?_
      refine dl (t := 27) 1 [.c (.box 3 1)] rfl ?_
      refine dl (t := 28) 2 [.c (.pv (.int .i64 a1.Size))] rfl ?_
      refine dl (t := 29) 3 [.c (.pv (.int .i64 (IntKind.i64.wrap (a1.Size - 1))))] rfl ?_
      obtain ⟨v3, k5, h⟩ := bindE h
      refine dl (t := 30) 4 [.agg [.pv (.int .i64 v3.Lo), .pv (.int .i64 v3.Hi)]] rfl ?_
      obtain ⟨v5, k7, h⟩ := bindE h
      refine dl (t := 31) 5 [.agg [.pv (.int .i64 v5.Lo), .pv (.int .i64 v5.Hi)]] rfl ?_
      refine d_store (wm [0, 0, 2, 6, 14, 31, 63]) 6 rfl (by kernel_rfl) (by kernel_rfl) (by kernel_rfl) (by kernel_rfl) (by kernel_rfl) (gi0 rfl) (oL [] rfl (by kernel_rfl) (fl_call rfl Try.call81 rfl (by kernel_rfl) (by kernel_rfl) (itv_Meet_meets k7)) (oL [] rfl (by kernel_rfl) (fl_call rfl Try.call17 rfl (by kernel_rfl) (by kernel_rfl) (itv_Of_meets k5)) (oE tbok [] 4 (by kernel_rfl) trivial))) rfl rfl ty53 rfl rfl rfl rfl rfl rfl (putE 2 (.all rfl) rfl (by decide)) (SetAt.eq (.s (.s (.s (.s (.s .z)))))) ?_
      refine d_endS (env2 := [(6, [.c (.box 5 0)])]) (wm [0, 0, 2, 6, 14, 31, 63]) (by kernel_rfl) (by kernel_rfl) (by kernel_rfl) (oN 7 (by kernel_rfl) trivial) (sub_cons rfl sub_nil) wT ?_
      refine then_ ?_
      refine ret_ ?_
      obtain rfl := retE h
      refine rwr (rw_ (.cellA (ys := [.pv (.int .i64 v5.Lo), .pv (.int .i64 v5.Hi)]) ty53 rfl rfl (by kernel_rfl) (by kernel_rfl) .nil) ?_)
      refine w_none 3 (.s (.s (.s .z))) ?_
      refine w_none 4 (.s (.s (.s (.s .z)))) ?_
      refine w_none 5 (.s (.s (.s (.s (.s .z))))) ?_
      refine w_cut 3 rfl rfl rfl rfl ?_
      exact wkE (by kernel_rfl) (by kernel_rfl)

theorem trans_stepper_stops_meets {a0 : trans_stepper} {r : trans_stepper} (h : trans_stepper_stops a0 = some r) : MeetsS Try.prog GG 47 [.c (.box 0 0)] [some (.box true 94 ([.pv (.sl (List.map e_check_Chan a0.f_w.S.Chans)), .pv (.sl (List.map e_flow_Graph a0.f_w.S.Graphs)), .pv (.sl (List.map e_i64 a0.f_w.S.Vars)), .pv (.sl (List.map e_queue_Elem a0.f_w.Elems)), .pv (.sl (List.map e_bool a0.f_w.Deaf)), .pv (.int .i64 a0.f_proc), .pv (.sl (List.map e_i64 a0.f_out)), .pv (.int .i64 a0.f_at), .pv (.int .i64 a0.f_e.From), .pv (.int .i64 a0.f_e.To), .pv (.int .i64 a0.f_e.Kind), .pv (.int .i64 a0.f_e.Var), .pv (.int .i64 a0.f_e.Chan), .pv (.int .i64 a0.f_e.Tag), .pv (.int .i64 a0.f_e.E.Kind), .pv (.int .i64 a0.f_e.E.Num), .pv (.int .i64 a0.f_e.E.Var), .pv (.sl (List.map e_check_Expr a0.f_e.E.Kids)), .pv (.int .i64 a0.f_e.C.Op), .pv (.int .i64 a0.f_e.C.L.Kind), .pv (.int .i64 a0.f_e.C.L.Num), .pv (.int .i64 a0.f_e.C.L.Var), .pv (.sl (List.map e_check_Expr a0.f_e.C.L.Kids)), .pv (.int .i64 a0.f_e.C.R.Kind), .pv (.int .i64 a0.f_e.C.R.Num), .pv (.int .i64 a0.f_e.C.R.Var), .pv (.sl (List.map e_check_Expr a0.f_e.C.R.Kids)), .pv (.bool a0.f_a.N.None), .pv (.sl (List.map e_itv_Itv a0.f_a.N.I)), .pv (.int .i64 a0.f_a.N.Z.N), .pv (.bool a0.f_a.N.Z.None)] ++ (bs (e_T42 a0.f_a.N.Z.D) ++ ([.row 1, .row 2, .pv (.int .i64 a0.f_sent.Chan), .pv (.int .i64 a0.f_sent.Tag), .pv (.int .i64 a0.f_sent.Vals.Lo), .pv (.int .i64 a0.f_sent.Vals.Hi)] ++ bs (e_T92 a0.f_errors))))), some (.row true false 53 2 (List.map e_itv_Itv a0.f_a.Counts)), some (.row true false 85 1 (List.map e_rule_Set a0.f_a.Rules))] [] [some (.box true 94 (bs (e_trans_stepper r))), none, none] := by
  refine meetsW_of (N := 15) r_trans_stepper_stops o_trans_stepper_stops r Try.func47 rfl rfl rfl (by dsimp only [argEnv]) rfl ?_
  unfold trans_stepper_stops at h
  refine drawn_ mixed ?_
  refine dl (t := 2) 0 [.c (.box 0 0)] rfl ?_
  refine dl (t := 3) 1 [.c (.box 0 0)] rfl ?_
  refine dl (t := 4) 2 [.c (.box 0 0)] rfl ?_
  refine dl (t := 5) 3 [.c (.box 0 0)] rfl ?_
  refine dl (t := 6) 4 [.c (.box 0 0)] rfl ?_
  refine dl (t := 7) 5 [.agg [.pv (.sl (List.map e_check_Chan a0.f_w.S.Chans)), .pv (.sl (List.map e_flow_Graph a0.f_w.S.Graphs)), .pv (.sl (List.map e_i64 a0.f_w.S.Vars))]] rfl ?_
  refine dl (t := 8) 6 [.c (.box 0 0)] rfl ?_
  refine dl (t := 9) 7 [.c (.box 0 0)] rfl ?_
  refine dl (t := 10) 8 [.c (.box 0 5)] rfl ?_
  refine dl (t := 11) 9 [.c (.pv (.int .i64 a0.f_proc))] rfl ?_
  obtain ⟨v2, k2, h⟩ := bindE h
  refine dl (t := 12) 10 [.agg (bs (e_trans_State v2))] rfl ?_
  refine dl (t := 13) 11 [.c (.box 0 0)] rfl ?_
  refine dl (t := 14) 12 [.c (.box 0 27)] rfl ?_
  obtain ⟨v3, k3, h⟩ := bindE h
  refine d_store (cs' := (bs (e_trans_stepper v3))) (wm [0, 0, 2, 6, 14, 30, 0, 64, 192, 448, 1022, 2047, 4095, 8191]) 13 rfl (by kernel_rfl) (by kernel_rfl) (by kernel_rfl) (by kernel_rfl) (by kernel_rfl) (gi0 rfl) (oE tbok [] 2 (by kernel_rfl) (oL [] rfl (by kernel_rfl) (fl_call rfl Try.call23 rfl (by kernel_rfl) (by kernel_rfl) (trans_None_meets k2)) (oE tbok [] 10 (by kernel_rfl) trivial))) rfl rfl ty49 rfl rfl rfl rfl rfl rfl (by rw [← retE k3]; kernel_rfl) (SetAt.eq .z) ?_
  refine d_endS (env2 := []) (wm [0, 0, 2, 6, 14, 30, 0, 64, 192, 448, 1022, 2047, 4095, 8191]) (by kernel_rfl) (by kernel_rfl) (by kernel_rfl) (oN 14 (by kernel_rfl) trivial) sub_nil wW ?_
  obtain rfl := retE h
  refine rwn .nil ?_
  refine w_none 1 (.s .z) ?_
  refine w_none 2 (.s (.s .z)) ?_
  exact wkE (by kernel_rfl) (by kernel_rfl)

theorem rule_Has_meets {a0 : Int} {a1 : Int} {r : Bool} (h : rule_Has a0 a1 = some r) : MeetsV Try.prog GG 104 [.c (.pv (.int .u8 a0)), .c (.pv (.int .i64 a1))] [.c (.pv (.bool r))] := by
  refine MeetsS.toV (meetsW_of (st0 := []) (N := 18) r_rule_Has o_rule_Has r Try.func104 rfl rfl rfl (by dsimp only [argEnv]) rfl ?_) rfl
  unfold rule_Has at h
  refine seq_ ?_
  refine region_ ?_
  refine R tbok 1 [4, 0, 1] [(4, [.c (.pv (.bool false))]), (0, [.c (.pv (.int .u8 a0))]), (1, [.c (.pv (.int .i64 a1))])] (by kernel_rfl) ?_
  refine ops_nil ?_
  refine then_ ?_
  refine seq_ ?_
  refine jn_ (fun (j1 : Bool) => (⟨18, 0, [(4, [.c (.pv (.bool j1))])], []⟩ : Sx)) h wT (fun o h => ?_) (fun j1 h => ?_)
  · refine region_ ?_
    refine R tbok 3 [7, 4, 0, 1] [(7, [.c (.pv (.bool (decide (a1 ≥ 0))))]), (4, [.c (.pv (.bool false))]), (0, [.c (.pv (.int .u8 a0))]), (1, [.c (.pv (.int .i64 a1))])] (by kernel_rfl) ?_
    refine (tf (decide (a1 ≥ 0))).elim (fun k1 => ?_) (fun k1 => ?_)
    · have h := iteT h k1
      refine Lg rfl rfl rfl k1 rfl (lt_move rfl rfl) rfl ?_
      refine Lg rfl rfl rfl k1 rfl (lt_int rfl rfl rfl rfl) rfl ?_
      refine L rfl rfl (lt_pickT rfl rfl k1 rfl) rfl ?_
      refine R tbok 1 [11, 4, 0, 1] [(11, [.c (.pv (.bool (decide (a1 < 8))))]), (4, [.c (.pv (.bool false))]), (0, [.c (.pv (.int .u8 a0))]), (1, [.c (.pv (.int .i64 a1))])] (by kernel_rfl) ?_
      refine (tf (decide (a1 < 8))).elim (fun k2 => ?_) (fun k2 => ?_)
      · have h := iteT h k2
        refine Lg rfl rfl rfl k2 rfl (lt_move rfl rfl) rfl ?_
        refine Lg rfl rfl rfl k2 rfl (lt_move rfl rfl) rfl ?_
        obtain ⟨v1, k3, h⟩ := bindE h
        refine Lg rfl rfl rfl k2 rfl (shr_ rfl rfl rfl k3) rfl ?_
        refine Lg rfl rfl rfl k2 rfl (lt_int rfl rfl rfl rfl) rfl ?_
        refine Lg rfl rfl rfl k2 rfl (lt_int rfl rfl rfl rfl) rfl ?_
        refine L rfl rfl (lt_pickT rfl rfl k2 rfl) rfl ?_
        refine R tbok 1 [4] [(4, [.c (.pv (.bool ((IntKind.u8.wrap (BitVec.ofInt IntKind.u8.bits v1 &&& BitVec.ofInt IntKind.u8.bits 1).toNat) == 1)))])] (by kernel_rfl) ?_
        refine ops_nil ?_
        obtain rfl := retE h
        refine mN ?_
        exact wkE (by kernel_rfl) (by kernel_rfl)
      · have h := iteF h k2
        refine Ls0 rfl rfl rfl k2 rfl rfl ?_
        refine Ls0 rfl rfl rfl k2 rfl rfl ?_
        refine Ls0 rfl rfl rfl k2 rfl rfl ?_
        refine Ls0 rfl rfl rfl k2 rfl rfl ?_
        refine Ls0 rfl rfl rfl k2 rfl rfl ?_
        refine L rfl rfl (lt_pickF rfl rfl k2 rfl) rfl ?_
        refine R tbok 1 [4] [(4, [.c (.pv (.bool false))])] (by kernel_rfl) ?_
        refine ops_nil ?_
        obtain rfl := retE h
        refine mN ?_
        exact wkE (by kernel_rfl) (by kernel_rfl)
    · have h := iteF h k1
      refine Ls0 rfl rfl rfl k1 rfl rfl ?_
      refine Ls0 rfl rfl rfl k1 rfl rfl ?_
      refine L rfl rfl (lt_pickF rfl rfl k1 rfl) rfl ?_
      refine R tbok 1 [11, 4, 0, 1] [(11, [.c (.pv (.bool false))]), (4, [.c (.pv (.bool false))]), (0, [.c (.pv (.int .u8 a0))]), (1, [.c (.pv (.int .i64 a1))])] (by kernel_rfl) ?_
      refine Ls0 rfl rfl rfl rfl rfl rfl ?_
      refine Ls0 rfl rfl rfl rfl rfl rfl ?_
      refine Ls0 rfl rfl rfl rfl rfl rfl ?_
      refine Ls0 rfl rfl rfl rfl rfl rfl ?_
      refine Ls0 rfl rfl rfl rfl rfl rfl ?_
      refine L rfl rfl (lt_pickF rfl rfl rfl rfl) rfl ?_
      refine R tbok 1 [4] [(4, [.c (.pv (.bool false))])] (by kernel_rfl) ?_
      refine ops_nil ?_
      obtain rfl := retE h
      refine mN ?_
      exact wkE (by kernel_rfl) (by kernel_rfl)
  · refine then_ ?_
    refine ret_ ?_
    obtain rfl := retE h
    refine rwr (rw_ (.tmp rfl .nil) ?_)
    exact wkE (by kernel_rfl) (by kernel_rfl)

theorem rule_List_meets {a0 : Int} {r : (List Int)} (h : rule_List a0 = some r) : MeetsV Try.prog GG 96 [.c (.pv (.int .u8 a0))] [.c (.pv (.sl (List.map e_i64 r)))] := by
  refine MeetsS.toV (meetsW_of (st0 := []) (N := 17) r_rule_List o_rule_List r Try.func96 rfl rfl rfl (by dsimp only [argEnv]) rfl ?_) rfl
  unfold rule_List at h
  refine seq_ ?_
  refine region_ ?_
  refine R tbok 1 [2, 0] [(2, [.c (.emp)]), (0, [.c (.pv (.int .u8 a0))])] (by kernel_rfl) ?_
  refine ops_nil ?_
  refine then_ ?_
  refine seq_ ?_
  refine region_ ?_
  refine R tbok 1 [3, 2, 0] [(3, [.c (.emp)]), (2, [.c (.emp)]), (0, [.c (.pv (.int .u8 a0))])] (by kernel_rfl) ?_
  refine ops_nil ?_
  refine then_ ?_
  refine seq_ ?_
  refine seq_ ?_
  refine region_ ?_
  refine R tbok 1 [5, 3, 2, 0] [(5, [.c (.pv (.int .i64 0))]), (3, [.c (.emp)]), (2, [.c (.emp)]), (0, [.c (.pv (.int .u8 a0))])] (by kernel_rfl) ?_
  refine ops_nil ?_
  refine then_ ?_
  refine CodeT.weak (w_lift 3 3 1 rfl .z (Weak.refl _)) ?_
  refine lp_ (Qr := RW Try.prog GG Try.f96 0 r_rule_List o_rule_List) (rule_List_l2 a0) (fun (x2 : (Int × (List Int))) => (⟨17, 0, [(0, [.c (.pv (.int .u8 a0))]), (3, [.c (.row 0)]), (5, [.c (.pv (.int .i64 x2.1))])], [some (.row true true 3 1 (List.map e_i64 x2.2))]⟩ : Sx)) (fun (j2 : (List Int)) => (⟨17, 0, [(3, [.c (.row 0)])], [some (.row true true 3 1 (List.map e_i64 j2))]⟩ : Sx)) (0, []) RW.only h wT ?_ (fun x2 o h => ?_) (fun r h s' hs => ?_) (fun j2 h => ?_)
  · refine w_sub (env' := [(0, [.c (.pv (.int .u8 a0))]), (3, [.c (.row 0)]), (5, [.c (.pv (.int .i64 0))])]) (sub_cons rfl (sub_cons rfl (sub_cons rfl sub_nil))) ?_
    refine w_ch 0 rfl .z ?_
    exact wkE (by kernel_rfl) (by kernel_rfl)
  · unfold rule_List_l2 at h
    refine seq_ ?_
    refine region_ ?_
    refine R tbok 1 [6, 0, 3, 5] [(6, [.c (.pv (.bool (decide (x2.1 < 8))))]), (0, [.c (.pv (.int .u8 a0))]), (3, [.c (.row 0)]), (5, [.c (.pv (.int .i64 x2.1))])] (by kernel_rfl) ?_
    refine ops_nil ?_
    refine then_ ?_
    refine seq_ ?_
    refine cond_ (b := (decide (x2.1 < 8))) rfl (fun k1 => ?_) (fun k1 => ?_)
    · have h := iteT h k1
      refine skip_ ?_
      refine then_ ?_
      refine seq_ ?_
      refine jn_ (fun (j3 : (List Int)) => (⟨17, 0, [(0, [.c (.pv (.int .u8 a0))]), (3, [.c (.row 0)]), (5, [.c (.pv (.int .i64 x2.1))])], [some (.row true true 3 1 (List.map e_i64 j3))]⟩ : Sx)) h wT (fun o h => ?_) (fun j3 h => ?_)
      · refine block_ ?_
        refine seq_ ?_
        refine region_ ?_
        refine R tbok 2 [4, 0, 3, 5] [(4, [.c (.pv (.int .i64 x2.1))]), (0, [.c (.pv (.int .u8 a0))]), (3, [.c (.row 0)]), (5, [.c (.pv (.int .i64 x2.1))])] (by kernel_rfl) ?_
        refine ops_nil ?_
        refine then_ ?_
        refine seq_ ?_
        refine region_ ?_
        refine R tbok 2 [9, 8, 4, 0, 3, 5] [(9, [.c (.pv (.int .i64 x2.1))]), (8, [.c (.pv (.int .u8 a0))]), (4, [.c (.pv (.int .i64 x2.1))]), (0, [.c (.pv (.int .u8 a0))]), (3, [.c (.row 0)]), (5, [.c (.pv (.int .i64 x2.1))])] (by kernel_rfl) ?_
        obtain ⟨v1, k2, h⟩ := bindE h
        refine C rfl rfl (fl_call rfl Try.call104 rfl (by kernel_rfl) (by kernel_rfl) (rule_Has_meets k2)) rfl ?_
        refine ops_nil ?_
        refine then_ ?_
        refine cond_ (b := v1) rfl (fun k3 => ?_) (fun k3 => ?_)
        · have h := iteT h k3
          refine region_ ?_
          refine R tbok 2 [12, 11, 0, 3, 5] [(12, [.c (.pv (.int .i64 x2.1))]), (11, [.c (.row 0)]), (0, [.c (.pv (.int .u8 a0))]), (3, [.c (.row 0)]), (5, [.c (.pv (.int .i64 x2.1))])] (by kernel_rfl) ?_
          refine C rfl rfl (fl_slice (List.map e_i64 [x2.1]) rfl sl33 rfl rfl rfl rfl rfl rfl rfl) rfl ?_
          obtain ⟨v2, k4, h⟩ := bindE h
          refine app_ (e := e_i64) (M := [x2.1]) (env' := [(13, [.c (.pv (.sl (List.map e_i64 [x2.1])))]), (12, [.c (.pv (.int .i64 x2.1))]), (11, [.c (.any)]), (0, [.c (.pv (.int .u8 a0))]), (3, [.c (.any)]), (5, [.c (.pv (.int .i64 x2.1))])]) (st' := [some (.row true true 3 1 (List.map e_i64 v2))]) rfl rfl rfl rfl u33 te3 (by decide) rfl rfl rfl (.sl _) (fun _ => rfl) k4 rfl rfl ?_
          refine R tbok 1 [3, 0, 5] [(3, [.c (.row 0)]), (0, [.c (.pv (.int .u8 a0))]), (5, [.c (.pv (.int .i64 x2.1))])] (by kernel_rfl) ?_
          refine ops_nil ?_
          refine bN ?_
          obtain rfl := retE h
          refine mN ?_
          refine w_sub (env' := [(0, [.c (.pv (.int .u8 a0))]), (3, [.c (.row 0)]), (5, [.c (.pv (.int .i64 x2.1))])]) (sub_cons rfl (sub_cons rfl (sub_cons rfl sub_nil))) ?_
          exact wkE (by kernel_rfl) (by kernel_rfl)
        · have h := iteF h k3
          refine skip_ ?_
          refine bN ?_
          obtain rfl := retE h
          refine mN ?_
          refine w_sub (env' := [(0, [.c (.pv (.int .u8 a0))]), (3, [.c (.row 0)]), (5, [.c (.pv (.int .i64 x2.1))])]) (sub_cons rfl (sub_cons rfl (sub_cons rfl sub_nil))) ?_
          exact wkE (by kernel_rfl) (by kernel_rfl)
      · refine then_ ?_
        refine region_ ?_
        refine R tbok 2 [5, 0, 3] [(5, [.c (.pv (.int .i64 (IntKind.i64.wrap (x2.1 + 1))))]), (0, [.c (.pv (.int .u8 a0))]), (3, [.c (.row 0)])] (by kernel_rfl) ?_
        refine ops_nil ?_
        obtain rfl := retE h
        refine lN ?_
        refine w_sub (env' := [(0, [.c (.pv (.int .u8 a0))]), (3, [.c (.row 0)]), (5, [.c (.pv (.int .i64 (IntKind.i64.wrap (x2.1 + 1))))])]) (sub_cons rfl (sub_cons rfl (sub_cons rfl sub_nil))) ?_
        exact wkE (by kernel_rfl) (by kernel_rfl)
    · have h := iteF h k1
      refine exit_ ?_
      refine tX ?_
      obtain rfl := retE h
      refine lX ?_
      refine w_sub (env' := [(3, [.c (.row 0)])]) (sub_cons rfl sub_nil) ?_
      exact wkE (by kernel_rfl) (by kernel_rfl)
  · cases h
  · have h := elimR h
    refine then_ ?_
    refine seq_ ?_
    refine region_ ?_
    refine R tbok 2 [2] [(2, [.c (.row 0)])] (by kernel_rfl) ?_
    refine ops_nil ?_
    refine then_ ?_
    refine ret_ ?_
    obtain rfl := retE h
    refine rwr (rw_ (.tmp rfl .nil) ?_)
    refine (w_freeze (b := 0) (env' := [(0, [.c (.pv (.sl (List.map e_i64 j2)))])]) (st' := [none]) rfl rfl rfl ?_)
    refine w_cut 0 rfl rfl rfl rfl ?_
    exact wkE (by kernel_rfl) (by kernel_rfl)

theorem rule_next_meets {a0 : check_Chan} {a1 : Int} {a2 : Int} {r : (Int × Bool)} (h : rule_next a0 a1 a2 = some r) : MeetsV Try.prog GG 97 [.agg [.pv (.int .i64 a0.Kind), .pv (.int .i64 a0.Size), .pv (.int .i64 a0.From), .pv (.int .i64 a0.To), .pv (.int .i64 a0.Tags), .pv (.sl (List.map e_sl33 a0.Rule))], .c (.pv (.int .i64 a1)), .c (.pv (.int .i64 a2))] [.c (.pv (.int .i64 r.1)), .c (.pv (.bool r.2))] := by
  refine MeetsS.toV (meetsW_of (st0 := []) (N := 43) r_rule_next o_rule_next r Try.func97 rfl rfl rfl (by dsimp only [argEnv]) rfl ?_) rfl
  unfold rule_next at h
  refine seq_ ?_
  refine region_ ?_
  refine B rfl rfl (bir_box rfl rfl rfl) rfl rfl .z ?_
  refine R tbok 2 [7, 6, 3, 1, 2] [(7, [.c (.pv (.bool false))]), (6, [.c (.pv (.int .i64 0))]), (3, [.c (.box 0 0)]), (1, [.c (.pv (.int .i64 a1))]), (2, [.c (.pv (.int .i64 a2))])] (by kernel_rfl) ?_
  refine ops_nil ?_
  refine then_ ?_
  refine seq_ ?_
  refine seq_ ?_
  refine jn_ (fun (j1 : Bool) => (⟨43, 0, [(1, [.c (.pv (.int .i64 a1))]), (2, [.c (.pv (.int .i64 a2))]), (3, [.c (.box 0 0)]), (6, [.c (.pv (.int .i64 0))]), (7, [.c (.pv (.bool false))]), (27, [.c (.pv (.bool j1))])], [some (.box true 73 [.pv (.int .i64 a0.Kind), .pv (.int .i64 a0.Size), .pv (.int .i64 a0.From), .pv (.int .i64 a0.To), .pv (.int .i64 a0.Tags), .pv (.sl (List.map e_sl33 a0.Rule))])]⟩ : Sx)) h wT (fun o h => ?_) (fun j1 h => ?_)
  · refine region_ ?_
    refine R tbok 3 [11, 9, 7, 6, 3, 1, 2] [(11, [.c (.pv (.sl (List.map e_sl33 a0.Rule)))]), (9, [.c (.pv (.int .i64 a1))]), (7, [.c (.pv (.bool false))]), (6, [.c (.pv (.int .i64 0))]), (3, [.c (.box 0 0)]), (1, [.c (.pv (.int .i64 a1))]), (2, [.c (.pv (.int .i64 a2))])] (by kernel_rfl) ?_
    refine L rfl rfl (len_sl (e := e_sl33) rfl u71 rfl) rfl ?_
    refine R tbok 2 [14, 7, 6, 3, 1, 2] [(14, [.c (.pv (.bool (decide (a1 ≥ (a0.Rule.length : Int)))))]), (7, [.c (.pv (.bool false))]), (6, [.c (.pv (.int .i64 0))]), (3, [.c (.box 0 0)]), (1, [.c (.pv (.int .i64 a1))]), (2, [.c (.pv (.int .i64 a2))])] (by kernel_rfl) ?_
    refine (tf (decide (a1 ≥ (a0.Rule.length : Int)))).elim (fun k1 => ?_) (fun k1 => ?_)
    · have h := iteT h k1
      refine Ls0 rfl rfl rfl k1 rfl rfl ?_
      refine Ls0 rfl rfl rfl k1 rfl rfl ?_
      refine L rfl rfl (lt_pickT rfl rfl k1 rfl) rfl ?_
      refine R tbok 1 [18, 7, 6, 3, 1, 2] [(18, [.c (.pv (.bool true))]), (7, [.c (.pv (.bool false))]), (6, [.c (.pv (.int .i64 0))]), (3, [.c (.box 0 0)]), (1, [.c (.pv (.int .i64 a1))]), (2, [.c (.pv (.int .i64 a2))])] (by kernel_rfl) ?_
      refine Ls0 rfl rfl rfl rfl rfl rfl ?_
      refine Ls0 rfl rfl rfl rfl rfl rfl ?_
      refine Ls0 rfl rfl rfl rfl rfl rfl ?_
      refine Ls0 rfl rfl rfl rfl rfl rfl ?_
      refine Ls0 rfl rfl rfl rfl rfl rfl ?_
      refine Ls0 rfl rfl rfl rfl rfl rfl ?_
      refine Ls0 rfl rfl rfl rfl rfl rfl ?_
      refine Ls0 rfl rfl rfl rfl rfl rfl ?_
      refine L rfl rfl (lt_pickT rfl rfl rfl rfl) rfl ?_
      refine ops_nil ?_
      obtain rfl := retE h
      refine mN ?_
      refine w_sub (env' := [(1, [.c (.pv (.int .i64 a1))]), (2, [.c (.pv (.int .i64 a2))]), (3, [.c (.box 0 0)]), (6, [.c (.pv (.int .i64 0))]), (7, [.c (.pv (.bool false))]), (27, [.c (.pv (.bool true))])]) (sub_cons rfl (sub_cons rfl (sub_cons rfl (sub_cons rfl (sub_cons rfl (sub_cons rfl sub_nil)))))) ?_
      exact wkE (by kernel_rfl) (by kernel_rfl)
    · have h := iteF h k1
      refine Lg rfl rfl rfl k1 rfl (lt_move rfl rfl) rfl ?_
      refine Lg rfl rfl rfl k1 rfl (lt_int rfl rfl rfl rfl) rfl ?_
      refine L rfl rfl (lt_pickF rfl rfl k1 rfl) rfl ?_
      refine R tbok 1 [18, 7, 6, 3, 1, 2] [(18, [.c (.pv (.bool (decide (a2 < 0))))]), (7, [.c (.pv (.bool false))]), (6, [.c (.pv (.int .i64 0))]), (3, [.c (.box 0 0)]), (1, [.c (.pv (.int .i64 a1))]), (2, [.c (.pv (.int .i64 a2))])] (by kernel_rfl) ?_
      refine (tf (decide (a2 < 0))).elim (fun k2 => ?_) (fun k2 => ?_)
      · have h := iteT h k2
        refine Ls0 rfl rfl rfl k2 rfl rfl ?_
        refine Ls0 rfl rfl rfl k2 rfl rfl ?_
        refine Ls0 rfl rfl rfl k2 rfl rfl ?_
        refine Ls0 rfl rfl rfl k2 rfl rfl ?_
        refine Ls0 rfl rfl rfl k2 rfl rfl ?_
        refine Ls0 rfl rfl rfl k2 rfl rfl ?_
        refine Ls0 rfl rfl rfl k2 rfl rfl ?_
        refine Ls0 rfl rfl rfl k2 rfl rfl ?_
        refine L rfl rfl (lt_pickT rfl rfl k2 rfl) rfl ?_
        refine ops_nil ?_
        obtain rfl := retE h
        refine mN ?_
        refine w_sub (env' := [(1, [.c (.pv (.int .i64 a1))]), (2, [.c (.pv (.int .i64 a2))]), (3, [.c (.box 0 0)]), (6, [.c (.pv (.int .i64 0))]), (7, [.c (.pv (.bool false))]), (27, [.c (.pv (.bool true))])]) (sub_cons rfl (sub_cons rfl (sub_cons rfl (sub_cons rfl (sub_cons rfl (sub_cons rfl sub_nil)))))) ?_
        exact wkE (by kernel_rfl) (by kernel_rfl)
      · have h := iteF h k2
        refine Lg rfl rfl rfl k2 rfl (lt_move rfl rfl) rfl ?_
        refine Lg rfl rfl rfl k2 rfl (lt_fa_box rfl f73_5 ty71 (by decide) rfl) rfl ?_
        refine Lg rfl rfl rfl k2 rfl (lt_load_box rfl ty71 rfl rfl rfl) rfl ?_
        refine Lg rfl rfl rfl k2 rfl (lt_move rfl rfl) rfl ?_
        obtain ⟨v1, k3, h⟩ := bindE h
        refine Lg rfl rfl rfl k2 rfl (ia_sl (e := e_sl33) (y := v1) rfl u71 ty33 rfl rfl k3 rfl) rfl ?_
        refine Lg rfl rfl rfl k2 rfl (lt_load_ep rfl ty33 rfl) rfl ?_
        refine Lg rfl rfl rfl k2 rfl (len_sl (e := e_i64) rfl u33 rfl) rfl ?_
        refine Lg rfl rfl rfl k2 rfl (lt_int rfl rfl rfl rfl) rfl ?_
        refine L rfl rfl (lt_pickF rfl rfl k2 rfl) rfl ?_
        refine ops_nil ?_
        obtain rfl := retE h
        refine mN ?_
        refine w_sub (env' := [(1, [.c (.pv (.int .i64 a1))]), (2, [.c (.pv (.int .i64 a2))]), (3, [.c (.box 0 0)]), (6, [.c (.pv (.int .i64 0))]), (7, [.c (.pv (.bool false))]), (27, [.c (.pv (.bool (decide (a2 ≥ (v1.length : Int)))))])]) (sub_cons rfl (sub_cons rfl (sub_cons rfl (sub_cons rfl (sub_cons rfl (sub_cons rfl sub_nil)))))) ?_
        exact wkE (by kernel_rfl) (by kernel_rfl)
  · refine then_ ?_
    refine cond_ (b := j1) rfl (fun k4 => ?_) (fun k4 => ?_)
    · have h := iteT h k4
      refine seq_ ?_
      refine region_ ?_
      refine R tbok 2 [7, 6, 1, 2, 3] [(7, [.c (.pv (.bool false))]), (6, [.c (.pv (.int .i64 0))]), (1, [.c (.pv (.int .i64 a1))]), (2, [.c (.pv (.int .i64 a2))]), (3, [.c (.box 0 0)])] (by kernel_rfl) ?_
      refine ops_nil ?_
      refine then_ ?_
      refine ret_ ?_
      obtain rfl := retE h
      refine tR (rwr (rw_ (.tmp rfl (.tmp rfl .nil)) ?_))
      refine w_none 0 .z ?_
      refine w_cut 0 rfl rfl rfl rfl ?_
      exact wkE (by kernel_rfl) (by kernel_rfl)
    · have h := iteF h k4
      refine skip_ ?_
      refine then_ ?_
      refine seq_ ?_
      refine region_ ?_
      refine R tbok 3 [30, 29, 2, 6, 7] [(30, [.c (.pv (.int .i64 a1))]), (29, [.c (.pv (.sl (List.map e_sl33 a0.Rule)))]), (2, [.c (.pv (.int .i64 a2))]), (6, [.c (.pv (.int .i64 0))]), (7, [.c (.pv (.bool false))])] (by kernel_rfl) ?_
      obtain ⟨v2, k5, h⟩ := bindE h
      refine L rfl rfl (ia_sl (e := e_sl33) (y := v2) rfl u71 ty33 rfl rfl k5 rfl) rfl ?_
      refine R tbok 2 [33, 32, 6, 7] [(33, [.c (.pv (.int .i64 a2))]), (32, [.c (.pv (.sl (List.map e_i64 v2)))]), (6, [.c (.pv (.int .i64 0))]), (7, [.c (.pv (.bool false))])] (by kernel_rfl) ?_
      obtain ⟨v3, k6, h⟩ := bindE h
      refine L rfl rfl (ia_sl (e := e_i64) (y := v3) rfl u33 ty3 rfl rfl k6 rfl) rfl ?_
      refine R tbok 2 [8, 6, 7] [(8, [.c (.pv (.int .i64 v3))]), (6, [.c (.pv (.int .i64 0))]), (7, [.c (.pv (.bool false))])] (by kernel_rfl) ?_
      refine ops_nil ?_
      refine then_ ?_
      refine seq_ ?_
      refine jn_ (fun (j2 : Bool) => (⟨43, 0, [(6, [.c (.pv (.int .i64 v3))]), (7, [.c (.pv (.bool j2))])], []⟩ : Sx)) h wT (fun o h => ?_) (fun j2 h => ?_)
      · refine region_ ?_
        refine R tbok 4 [39, 36, 8, 6, 7] [(39, [.c (.pv (.bool (decide (v3 ≥ 0))))]), (36, [.c (.pv (.int .i64 v3))]), (8, [.c (.pv (.int .i64 v3))]), (6, [.c (.pv (.int .i64 0))]), (7, [.c (.pv (.bool false))])] (by kernel_rfl) ?_
        refine (tf (decide (v3 ≥ 0))).elim (fun k7 => ?_) (fun k7 => ?_)
        · have h := iteT h k7
          refine Lg rfl rfl rfl k7 rfl (lt_move rfl rfl) rfl ?_
          refine Lg rfl rfl rfl k7 rfl (lt_int rfl rfl rfl rfl) rfl ?_
          refine L rfl rfl (lt_pickT rfl rfl k7 rfl) rfl ?_
          refine R tbok 2 [7, 6] [(7, [.c (.pv (.bool (decide (v3 < 8))))]), (6, [.c (.pv (.int .i64 v3))])] (by kernel_rfl) ?_
          refine ops_nil ?_
          obtain rfl := retE h
          refine mN ?_
          refine w_sub (env' := [(6, [.c (.pv (.int .i64 v3))]), (7, [.c (.pv (.bool (decide (v3 < 8))))])]) (sub_cons rfl (sub_cons rfl sub_nil)) ?_
          refine w_cut 0 rfl rfl rfl rfl ?_
          exact wkE (by kernel_rfl) (by kernel_rfl)
        · have h := iteF h k7
          refine Ls0 rfl rfl rfl k7 rfl rfl ?_
          refine Ls0 rfl rfl rfl k7 rfl rfl ?_
          refine L rfl rfl (lt_pickF rfl rfl k7 rfl) rfl ?_
          refine R tbok 2 [7, 6] [(7, [.c (.pv (.bool false))]), (6, [.c (.pv (.int .i64 v3))])] (by kernel_rfl) ?_
          refine ops_nil ?_
          obtain rfl := retE h
          refine mN ?_
          refine w_sub (env' := [(6, [.c (.pv (.int .i64 v3))]), (7, [.c (.pv (.bool false))])]) (sub_cons rfl (sub_cons rfl sub_nil)) ?_
          refine w_cut 0 rfl rfl rfl rfl ?_
          exact wkE (by kernel_rfl) (by kernel_rfl)
      · refine then_ ?_
        refine ret_ ?_
        obtain rfl := retE h
        refine rwr (rw_ (.tmp rfl (.tmp rfl .nil)) ?_)
        exact wkE (by kernel_rfl) (by kernel_rfl)

theorem rule_Step_meets {a0 : check_Chan} {a1 : Int} {a2 : Int} {r : (Int × Bool)} (h : rule_Step a0 a1 a2 = some r) : MeetsV Try.prog GG 85 [.agg [.pv (.int .i64 a0.Kind), .pv (.int .i64 a0.Size), .pv (.int .i64 a0.From), .pv (.int .i64 a0.To), .pv (.int .i64 a0.Tags), .pv (.sl (List.map e_sl33 a0.Rule))], .c (.pv (.int .u8 a1)), .c (.pv (.int .i64 a2))] [.c (.pv (.int .u8 r.1)), .c (.pv (.bool r.2))] := by
  refine MeetsS.toV (meetsW_of (st0 := []) (N := 46) r_rule_Step o_rule_Step r Try.func85 rfl rfl rfl (by dsimp only [argEnv]) rfl ?_) rfl
  unfold rule_Step at h
  refine seq_ ?_
  refine region_ ?_
  refine B rfl rfl (bir_box rfl rfl rfl) rfl rfl .z ?_
  refine R tbok 2 [7, 6, 3, 1, 2] [(7, [.c (.pv (.bool false))]), (6, [.c (.pv (.int .u8 0))]), (3, [.c (.box 0 0)]), (1, [.c (.pv (.int .u8 a1))]), (2, [.c (.pv (.int .i64 a2))])] (by kernel_rfl) ?_
  refine ops_nil ?_
  refine then_ ?_
  refine seq_ ?_
  refine seq_ ?_
  refine region_ ?_
  refine R tbok 2 [15, 7, 6, 3, 1, 2] [(15, [.c (.pv (.sl (List.map e_sl33 a0.Rule)))]), (7, [.c (.pv (.bool false))]), (6, [.c (.pv (.int .u8 0))]), (3, [.c (.box 0 0)]), (1, [.c (.pv (.int .u8 a1))]), (2, [.c (.pv (.int .i64 a2))])] (by kernel_rfl) ?_
  refine L rfl rfl (len_sl (e := e_sl33) rfl u71 rfl) rfl ?_
  refine R tbok 1 [17, 7, 6, 3, 1, 2] [(17, [.c (.pv (.bool ((a0.Rule.length : Int) == 0)))]), (7, [.c (.pv (.bool false))]), (6, [.c (.pv (.int .u8 0))]), (3, [.c (.box 0 0)]), (1, [.c (.pv (.int .u8 a1))]), (2, [.c (.pv (.int .i64 a2))])] (by kernel_rfl) ?_
  refine ops_nil ?_
  refine then_ ?_
  refine cond_ (b := ((a0.Rule.length : Int) == 0)) rfl (fun k1 => ?_) (fun k1 => ?_)
  · have h := iteT h k1
    refine seq_ ?_
    refine region_ ?_
    refine R tbok 3 [7, 6, 3, 1, 2] [(7, [.c (.pv (.bool false))]), (6, [.c (.pv (.int .u8 a1))]), (3, [.c (.box 0 0)]), (1, [.c (.pv (.int .u8 a1))]), (2, [.c (.pv (.int .i64 a2))])] (by kernel_rfl) ?_
    refine ops_nil ?_
    refine then_ ?_
    refine ret_ ?_
    obtain rfl := retE h
    refine tR (rwr (rw_ (.tmp rfl (.tmp rfl .nil)) ?_))
    refine w_none 0 .z ?_
    refine w_cut 0 rfl rfl rfl rfl ?_
    exact wkE (by kernel_rfl) (by kernel_rfl)
  · have h := iteF h k1
    refine skip_ ?_
    refine then_ ?_
    refine seq_ ?_
    refine region_ ?_
    refine R tbok 2 [9, 8, 7, 6, 3, 1, 2] [(9, [.c (.pv (.bool false))]), (8, [.c (.pv (.int .u8 0))]), (7, [.c (.pv (.bool false))]), (6, [.c (.pv (.int .u8 0))]), (3, [.c (.box 0 0)]), (1, [.c (.pv (.int .u8 a1))]), (2, [.c (.pv (.int .i64 a2))])] (by kernel_rfl) ?_
    refine ops_nil ?_
    refine then_ ?_
    refine seq_ ?_
    refine seq_ ?_
    refine region_ ?_
    refine R tbok 1 [19, 9, 8, 7, 6, 3, 2] [(19, [.c (.pv (.int .u8 a1))]), (9, [.c (.pv (.bool false))]), (8, [.c (.pv (.int .u8 0))]), (7, [.c (.pv (.bool false))]), (6, [.c (.pv (.int .u8 0))]), (3, [.c (.box 0 0)]), (2, [.c (.pv (.int .i64 a2))])] (by kernel_rfl) ?_
    obtain ⟨v1, k2, h⟩ := bindE h
    refine C rfl rfl (fl_call rfl Try.call96 rfl (by kernel_rfl) (by kernel_rfl) (rule_List_meets k2)) rfl ?_
    refine L rfl rfl (len_sl (e := e_i64) rfl u33 rfl) rfl ?_
    refine R tbok 1 [22, 21, 20, 9, 8, 7, 6, 3, 2] [(22, [.c (.pv (.int .i64 0))]), (21, [.c (.pv (.int .i64 (v1.length : Int)))]), (20, [.c (.pv (.sl (List.map e_i64 v1)))]), (9, [.c (.pv (.bool false))]), (8, [.c (.pv (.int .u8 0))]), (7, [.c (.pv (.bool false))]), (6, [.c (.pv (.int .u8 0))]), (3, [.c (.box 0 0)]), (2, [.c (.pv (.int .i64 a2))])] (by kernel_rfl) ?_
    refine ops_nil ?_
    refine then_ ?_
    refine lp_ (Qr := RW Try.prog GG Try.f85 0 r_rule_Step o_rule_Step) (rule_Step_l1 a0 a2 v1) (fun (x1 : (Int × Bool × Int)) => (⟨46, 0, [(2, [.c (.pv (.int .i64 a2))]), (3, [.c (.box 0 0)]), (8, [.c (.pv (.int .u8 x1.1))]), (9, [.c (.pv (.bool x1.2.1))]), (20, [.c (.pv (.sl (List.map e_i64 v1)))]), (21, [.c (.pv (.int .i64 (v1.length : Int)))]), (22, [.c (.pv (.int .i64 x1.2.2))])], [some (.box true 73 [.pv (.int .i64 a0.Kind), .pv (.int .i64 a0.Size), .pv (.int .i64 a0.From), .pv (.int .i64 a0.To), .pv (.int .i64 a0.Tags), .pv (.sl (List.map e_sl33 a0.Rule))])]⟩ : Sx)) (fun (j1 : (Int × Bool)) => (⟨46, 0, [(8, [.c (.pv (.int .u8 j1.1))]), (9, [.c (.pv (.bool j1.2))])], []⟩ : Sx)) (0, false, 0) RW.only h wT ?_ (fun x1 o h => ?_) (fun r h s' hs => ?_) (fun j1 h => ?_)
    · refine w_sub (env' := [(2, [.c (.pv (.int .i64 a2))]), (3, [.c (.box 0 0)]), (8, [.c (.pv (.int .u8 0))]), (9, [.c (.pv (.bool false))]), (20, [.c (.pv (.sl (List.map e_i64 v1)))]), (21, [.c (.pv (.int .i64 (v1.length : Int)))]), (22, [.c (.pv (.int .i64 0))])]) (sub_cons rfl (sub_cons rfl (sub_cons rfl (sub_cons rfl (sub_cons rfl (sub_cons rfl (sub_cons rfl sub_nil))))))) ?_
      exact wkE (by kernel_rfl) (by kernel_rfl)
    · unfold rule_Step_l1 at h
      refine seq_ ?_
      refine region_ ?_
      refine R tbok 1 [23, 2, 3, 8, 9, 20, 21, 22] [(23, [.c (.pv (.bool (decide (x1.2.2 < (v1.length : Int)))))]), (2, [.c (.pv (.int .i64 a2))]), (3, [.c (.box 0 0)]), (8, [.c (.pv (.int .u8 x1.1))]), (9, [.c (.pv (.bool x1.2.1))]), (20, [.c (.pv (.sl (List.map e_i64 v1)))]), (21, [.c (.pv (.int .i64 (v1.length : Int)))]), (22, [.c (.pv (.int .i64 x1.2.2))])] (by kernel_rfl) ?_
      refine ops_nil ?_
      refine then_ ?_
      refine seq_ ?_
      refine cond_ (b := (decide (x1.2.2 < (v1.length : Int)))) rfl (fun k3 => ?_) (fun k3 => ?_)
      · have h := iteT h k3
        refine skip_ ?_
        refine then_ ?_
        refine seq_ ?_
        refine jn_ (fun (j2 : (Int × Bool)) => (⟨46, 0, [(2, [.c (.pv (.int .i64 a2))]), (3, [.c (.box 0 0)]), (8, [.c (.pv (.int .u8 j2.1))]), (9, [.c (.pv (.bool j2.2))]), (20, [.c (.pv (.sl (List.map e_i64 v1)))]), (21, [.c (.pv (.int .i64 (v1.length : Int)))]), (22, [.c (.pv (.int .i64 x1.2.2))])], [some (.box true 73 [.pv (.int .i64 a0.Kind), .pv (.int .i64 a0.Size), .pv (.int .i64 a0.From), .pv (.int .i64 a0.To), .pv (.int .i64 a0.Tags), .pv (.sl (List.map e_sl33 a0.Rule))])]⟩ : Sx)) h wT (fun o h => ?_) (fun j2 h => ?_)
        · refine block_ ?_
          refine seq_ ?_
          refine region_ ?_
          obtain ⟨v2, k4, h⟩ := bindE h
          refine L rfl rfl (ia_sl (e := e_i64) (y := v2) rfl u33 ty3 rfl rfl k4 rfl) rfl ?_
          refine R tbok 2 [11, 2, 3, 8, 9, 20, 21, 22] [(11, [.c (.pv (.int .i64 v2))]), (2, [.c (.pv (.int .i64 a2))]), (3, [.c (.box 0 0)]), (8, [.c (.pv (.int .u8 x1.1))]), (9, [.c (.pv (.bool x1.2.1))]), (20, [.c (.pv (.sl (List.map e_i64 v1)))]), (21, [.c (.pv (.int .i64 (v1.length : Int)))]), (22, [.c (.pv (.int .i64 x1.2.2))])] (by kernel_rfl) ?_
          refine ops_nil ?_
          refine then_ ?_
          refine seq_ ?_
          refine region_ ?_
          refine R tbok 3 [29, 28, 27, 2, 3, 8, 9, 20, 21, 22] [(29, [.c (.pv (.int .i64 a2))]), (28, [.c (.pv (.int .i64 v2))]), (27, [.agg [.pv (.int .i64 a0.Kind), .pv (.int .i64 a0.Size), .pv (.int .i64 a0.From), .pv (.int .i64 a0.To), .pv (.int .i64 a0.Tags), .pv (.sl (List.map e_sl33 a0.Rule))]]), (2, [.c (.pv (.int .i64 a2))]), (3, [.c (.box 0 0)]), (8, [.c (.pv (.int .u8 x1.1))]), (9, [.c (.pv (.bool x1.2.1))]), (20, [.c (.pv (.sl (List.map e_i64 v1)))]), (21, [.c (.pv (.int .i64 (v1.length : Int)))]), (22, [.c (.pv (.int .i64 x1.2.2))])] (by kernel_rfl) ?_
          obtain ⟨v3, k5, h⟩ := bindE h
          refine C rfl rfl (fl_call rfl Try.call97 rfl (by kernel_rfl) (by kernel_rfl) (rule_next_meets k5)) rfl ?_
          refine R tbok 5 [13, 12, 2, 3, 8, 9, 20, 21, 22] [(13, [.c (.pv (.bool v3.2))]), (12, [.c (.pv (.int .i64 v3.1))]), (2, [.c (.pv (.int .i64 a2))]), (3, [.c (.box 0 0)]), (8, [.c (.pv (.int .u8 x1.1))]), (9, [.c (.pv (.bool x1.2.1))]), (20, [.c (.pv (.sl (List.map e_i64 v1)))]), (21, [.c (.pv (.int .i64 (v1.length : Int)))]), (22, [.c (.pv (.int .i64 x1.2.2))])] (by kernel_rfl) ?_
          refine ops_nil ?_
          refine then_ ?_
          refine seq_ ?_
          refine jn_ (fun (j3 : Int) => (⟨46, 0, [(2, [.c (.pv (.int .i64 a2))]), (3, [.c (.box 0 0)]), (8, [.c (.pv (.int .u8 j3))]), (9, [.c (.pv (.bool x1.2.1))]), (13, [.c (.pv (.bool v3.2))]), (20, [.c (.pv (.sl (List.map e_i64 v1)))]), (21, [.c (.pv (.int .i64 (v1.length : Int)))]), (22, [.c (.pv (.int .i64 x1.2.2))])], [some (.box true 73 [.pv (.int .i64 a0.Kind), .pv (.int .i64 a0.Size), .pv (.int .i64 a0.From), .pv (.int .i64 a0.To), .pv (.int .i64 a0.Tags), .pv (.sl (List.map e_sl33 a0.Rule))])]⟩ : Sx)) h wT (fun o h => ?_) (fun j3 h => ?_)
          · refine seq_ ?_
            refine region_ ?_
            refine R tbok 1 [33, 13, 12, 2, 3, 8, 9, 20, 21, 22] [(33, [.c (.pv (.bool v3.2))]), (13, [.c (.pv (.bool v3.2))]), (12, [.c (.pv (.int .i64 v3.1))]), (2, [.c (.pv (.int .i64 a2))]), (3, [.c (.box 0 0)]), (8, [.c (.pv (.int .u8 x1.1))]), (9, [.c (.pv (.bool x1.2.1))]), (20, [.c (.pv (.sl (List.map e_i64 v1)))]), (21, [.c (.pv (.int .i64 (v1.length : Int)))]), (22, [.c (.pv (.int .i64 x1.2.2))])] (by kernel_rfl) ?_
            refine ops_nil ?_
            refine then_ ?_
            refine cond_ (b := v3.2) rfl (fun k6 => ?_) (fun k6 => ?_)
            · have h := iteT h k6
              refine region_ ?_
              refine R tbok 2 [35, 34, 13, 2, 3, 8, 9, 20, 21, 22] [(35, [.c (.pv (.int .i64 v3.1))]), (34, [.c (.pv (.int .u8 x1.1))]), (13, [.c (.pv (.bool v3.2))]), (2, [.c (.pv (.int .i64 a2))]), (3, [.c (.box 0 0)]), (8, [.c (.pv (.int .u8 x1.1))]), (9, [.c (.pv (.bool x1.2.1))]), (20, [.c (.pv (.sl (List.map e_i64 v1)))]), (21, [.c (.pv (.int .i64 (v1.length : Int)))]), (22, [.c (.pv (.int .i64 x1.2.2))])] (by kernel_rfl) ?_
              obtain ⟨v4, k7, h⟩ := bindE h
              refine L rfl rfl (shl_ rfl rfl rfl k7) rfl ?_
              refine R tbok 2 [8, 13, 2, 3, 9, 20, 21, 22] [(8, [.c (.pv (.int .u8 (IntKind.u8.wrap (BitVec.ofInt IntKind.u8.bits x1.1 ||| BitVec.ofInt IntKind.u8.bits v4).toNat)))]), (13, [.c (.pv (.bool v3.2))]), (2, [.c (.pv (.int .i64 a2))]), (3, [.c (.box 0 0)]), (9, [.c (.pv (.bool x1.2.1))]), (20, [.c (.pv (.sl (List.map e_i64 v1)))]), (21, [.c (.pv (.int .i64 (v1.length : Int)))]), (22, [.c (.pv (.int .i64 x1.2.2))])] (by kernel_rfl) ?_
              refine ops_nil ?_
              obtain rfl := retE h
              refine mN ?_
              refine w_sub (env' := [(2, [.c (.pv (.int .i64 a2))]), (3, [.c (.box 0 0)]), (8, [.c (.pv (.int .u8 (IntKind.u8.wrap (BitVec.ofInt IntKind.u8.bits x1.1 ||| BitVec.ofInt IntKind.u8.bits v4).toNat)))]), (9, [.c (.pv (.bool x1.2.1))]), (13, [.c (.pv (.bool v3.2))]), (20, [.c (.pv (.sl (List.map e_i64 v1)))]), (21, [.c (.pv (.int .i64 (v1.length : Int)))]), (22, [.c (.pv (.int .i64 x1.2.2))])]) (sub_cons rfl (sub_cons rfl (sub_cons rfl (sub_cons rfl (sub_cons rfl (sub_cons rfl (sub_cons rfl (sub_cons rfl sub_nil)))))))) ?_
              exact wkE (by kernel_rfl) (by kernel_rfl)
            · have h := iteF h k6
              refine skip_ ?_
              obtain rfl := retE h
              refine mN ?_
              refine w_sub (env' := [(2, [.c (.pv (.int .i64 a2))]), (3, [.c (.box 0 0)]), (8, [.c (.pv (.int .u8 x1.1))]), (9, [.c (.pv (.bool x1.2.1))]), (13, [.c (.pv (.bool v3.2))]), (20, [.c (.pv (.sl (List.map e_i64 v1)))]), (21, [.c (.pv (.int .i64 (v1.length : Int)))]), (22, [.c (.pv (.int .i64 x1.2.2))])]) (sub_cons rfl (sub_cons rfl (sub_cons rfl (sub_cons rfl (sub_cons rfl (sub_cons rfl (sub_cons rfl (sub_cons rfl sub_nil)))))))) ?_
              exact wkE (by kernel_rfl) (by kernel_rfl)
          · refine then_ ?_
            refine region_ ?_
            refine R tbok 2 [39, 2, 3, 8, 9, 13, 20, 21, 22] [(39, [.c (.pv (.bool x1.2.1))]), (2, [.c (.pv (.int .i64 a2))]), (3, [.c (.box 0 0)]), (8, [.c (.pv (.int .u8 j3))]), (9, [.c (.pv (.bool x1.2.1))]), (13, [.c (.pv (.bool v3.2))]), (20, [.c (.pv (.sl (List.map e_i64 v1)))]), (21, [.c (.pv (.int .i64 (v1.length : Int)))]), (22, [.c (.pv (.int .i64 x1.2.2))])] (by kernel_rfl) ?_
            refine (tf x1.2.1).elim (fun k8 => ?_) (fun k8 => ?_)
            · have h := iteT h k8
              refine Ls0 rfl rfl rfl k8 rfl rfl ?_
              refine Ls0 rfl rfl rfl k8 rfl rfl ?_
              refine L rfl rfl (lt_pickT rfl rfl k8 rfl) rfl ?_
              refine R tbok 1 [9, 2, 3, 8, 20, 21, 22] [(9, [.c (.pv (.bool true))]), (2, [.c (.pv (.int .i64 a2))]), (3, [.c (.box 0 0)]), (8, [.c (.pv (.int .u8 j3))]), (20, [.c (.pv (.sl (List.map e_i64 v1)))]), (21, [.c (.pv (.int .i64 (v1.length : Int)))]), (22, [.c (.pv (.int .i64 x1.2.2))])] (by kernel_rfl) ?_
              refine ops_nil ?_
              refine bN ?_
              obtain rfl := retE h
              refine mN ?_
              refine w_sub (env' := [(2, [.c (.pv (.int .i64 a2))]), (3, [.c (.box 0 0)]), (8, [.c (.pv (.int .u8 j3))]), (9, [.c (.pv (.bool true))]), (20, [.c (.pv (.sl (List.map e_i64 v1)))]), (21, [.c (.pv (.int .i64 (v1.length : Int)))]), (22, [.c (.pv (.int .i64 x1.2.2))])]) (sub_cons rfl (sub_cons rfl (sub_cons rfl (sub_cons rfl (sub_cons rfl (sub_cons rfl (sub_cons rfl sub_nil))))))) ?_
              exact wkE (by kernel_rfl) (by kernel_rfl)
            · have h := iteF h k8
              refine Lg rfl rfl rfl k8 rfl (lt_move rfl rfl) rfl ?_
              refine Lg rfl rfl rfl k8 rfl (lt_not rfl rfl) rfl ?_
              refine L rfl rfl (lt_pickF rfl rfl k8 rfl) rfl ?_
              refine R tbok 1 [9, 2, 3, 8, 20, 21, 22] [(9, [.c (.pv (.bool (!v3.2)))]), (2, [.c (.pv (.int .i64 a2))]), (3, [.c (.box 0 0)]), (8, [.c (.pv (.int .u8 j3))]), (20, [.c (.pv (.sl (List.map e_i64 v1)))]), (21, [.c (.pv (.int .i64 (v1.length : Int)))]), (22, [.c (.pv (.int .i64 x1.2.2))])] (by kernel_rfl) ?_
              refine ops_nil ?_
              refine bN ?_
              obtain rfl := retE h
              refine mN ?_
              refine w_sub (env' := [(2, [.c (.pv (.int .i64 a2))]), (3, [.c (.box 0 0)]), (8, [.c (.pv (.int .u8 j3))]), (9, [.c (.pv (.bool (!v3.2)))]), (20, [.c (.pv (.sl (List.map e_i64 v1)))]), (21, [.c (.pv (.int .i64 (v1.length : Int)))]), (22, [.c (.pv (.int .i64 x1.2.2))])]) (sub_cons rfl (sub_cons rfl (sub_cons rfl (sub_cons rfl (sub_cons rfl (sub_cons rfl (sub_cons rfl sub_nil))))))) ?_
              exact wkE (by kernel_rfl) (by kernel_rfl)
        · refine then_ ?_
          refine region_ ?_
          refine R tbok 2 [22, 2, 3, 8, 9, 20, 21] [(22, [.c (.pv (.int .i64 (IntKind.i64.wrap (x1.2.2 + 1))))]), (2, [.c (.pv (.int .i64 a2))]), (3, [.c (.box 0 0)]), (8, [.c (.pv (.int .u8 j2.1))]), (9, [.c (.pv (.bool j2.2))]), (20, [.c (.pv (.sl (List.map e_i64 v1)))]), (21, [.c (.pv (.int .i64 (v1.length : Int)))])] (by kernel_rfl) ?_
          refine ops_nil ?_
          obtain rfl := retE h
          refine lN ?_
          refine w_sub (env' := [(2, [.c (.pv (.int .i64 a2))]), (3, [.c (.box 0 0)]), (8, [.c (.pv (.int .u8 j2.1))]), (9, [.c (.pv (.bool j2.2))]), (20, [.c (.pv (.sl (List.map e_i64 v1)))]), (21, [.c (.pv (.int .i64 (v1.length : Int)))]), (22, [.c (.pv (.int .i64 (IntKind.i64.wrap (x1.2.2 + 1))))])]) (sub_cons rfl (sub_cons rfl (sub_cons rfl (sub_cons rfl (sub_cons rfl (sub_cons rfl (sub_cons rfl sub_nil))))))) ?_
          exact wkE (by kernel_rfl) (by kernel_rfl)
      · have h := iteF h k3
        refine exit_ ?_
        refine tX ?_
        obtain rfl := retE h
        refine lX ?_
        refine w_sub (env' := [(8, [.c (.pv (.int .u8 x1.1))]), (9, [.c (.pv (.bool x1.2.1))])]) (sub_cons rfl (sub_cons rfl sub_nil)) ?_
        refine w_cut 0 rfl rfl rfl rfl ?_
        exact wkE (by kernel_rfl) (by kernel_rfl)
    · cases h
    · have h := elimR h
      refine then_ ?_
      refine seq_ ?_
      refine region_ ?_
      refine R tbok 4 [7, 6] [(7, [.c (.pv (.bool j1.2))]), (6, [.c (.pv (.int .u8 j1.1))])] (by kernel_rfl) ?_
      refine ops_nil ?_
      refine then_ ?_
      refine ret_ ?_
      obtain rfl := retE h
      refine rwr (rw_ (.tmp rfl (.tmp rfl .nil)) ?_)
      exact wkE (by kernel_rfl) (by kernel_rfl)

theorem trans_stepper_ruled_meets {a0 : trans_stepper} {a1 : check_Chan} {r : (trans_stepper × Bool)} (h : trans_stepper_ruled a0 a1 = some r) : MeetsS Try.prog GG 63 [.c (.box 0 0), .agg [.pv (.int .i64 a1.Kind), .pv (.int .i64 a1.Size), .pv (.int .i64 a1.From), .pv (.int .i64 a1.To), .pv (.int .i64 a1.Tags), .pv (.sl (List.map e_sl33 a1.Rule))]] [some (.box true 94 ([.pv (.sl (List.map e_check_Chan a0.f_w.S.Chans)), .pv (.sl (List.map e_flow_Graph a0.f_w.S.Graphs)), .pv (.sl (List.map e_i64 a0.f_w.S.Vars)), .pv (.sl (List.map e_queue_Elem a0.f_w.Elems)), .pv (.sl (List.map e_bool a0.f_w.Deaf)), .pv (.int .i64 a0.f_proc), .pv (.sl (List.map e_i64 a0.f_out)), .pv (.int .i64 a0.f_at), .pv (.int .i64 a0.f_e.From), .pv (.int .i64 a0.f_e.To), .pv (.int .i64 a0.f_e.Kind), .pv (.int .i64 a0.f_e.Var), .pv (.int .i64 a0.f_e.Chan), .pv (.int .i64 a0.f_e.Tag), .pv (.int .i64 a0.f_e.E.Kind), .pv (.int .i64 a0.f_e.E.Num), .pv (.int .i64 a0.f_e.E.Var), .pv (.sl (List.map e_check_Expr a0.f_e.E.Kids)), .pv (.int .i64 a0.f_e.C.Op), .pv (.int .i64 a0.f_e.C.L.Kind), .pv (.int .i64 a0.f_e.C.L.Num), .pv (.int .i64 a0.f_e.C.L.Var), .pv (.sl (List.map e_check_Expr a0.f_e.C.L.Kids)), .pv (.int .i64 a0.f_e.C.R.Kind), .pv (.int .i64 a0.f_e.C.R.Num), .pv (.int .i64 a0.f_e.C.R.Var), .pv (.sl (List.map e_check_Expr a0.f_e.C.R.Kids)), .pv (.bool a0.f_a.N.None), .pv (.sl (List.map e_itv_Itv a0.f_a.N.I)), .pv (.int .i64 a0.f_a.N.Z.N), .pv (.bool a0.f_a.N.Z.None)] ++ (bs (e_T42 a0.f_a.N.Z.D) ++ ([.row 1, .row 2, .pv (.int .i64 a0.f_sent.Chan), .pv (.int .i64 a0.f_sent.Tag), .pv (.int .i64 a0.f_sent.Vals.Lo), .pv (.int .i64 a0.f_sent.Vals.Hi)] ++ bs (e_T92 a0.f_errors))))), some (.row true false 53 2 (List.map e_itv_Itv a0.f_a.Counts)), some (.row true false 85 1 (List.map e_rule_Set a0.f_a.Rules))] [.c (.pv (.bool r.2))] [some (.box true 94 ([.pv (.sl (List.map e_check_Chan r.1.f_w.S.Chans)), .pv (.sl (List.map e_flow_Graph r.1.f_w.S.Graphs)), .pv (.sl (List.map e_i64 r.1.f_w.S.Vars)), .pv (.sl (List.map e_queue_Elem r.1.f_w.Elems)), .pv (.sl (List.map e_bool r.1.f_w.Deaf)), .pv (.int .i64 r.1.f_proc), .pv (.sl (List.map e_i64 r.1.f_out)), .pv (.int .i64 r.1.f_at), .pv (.int .i64 r.1.f_e.From), .pv (.int .i64 r.1.f_e.To), .pv (.int .i64 r.1.f_e.Kind), .pv (.int .i64 r.1.f_e.Var), .pv (.int .i64 r.1.f_e.Chan), .pv (.int .i64 r.1.f_e.Tag), .pv (.int .i64 r.1.f_e.E.Kind), .pv (.int .i64 r.1.f_e.E.Num), .pv (.int .i64 r.1.f_e.E.Var), .pv (.sl (List.map e_check_Expr r.1.f_e.E.Kids)), .pv (.int .i64 r.1.f_e.C.Op), .pv (.int .i64 r.1.f_e.C.L.Kind), .pv (.int .i64 r.1.f_e.C.L.Num), .pv (.int .i64 r.1.f_e.C.L.Var), .pv (.sl (List.map e_check_Expr r.1.f_e.C.L.Kids)), .pv (.int .i64 r.1.f_e.C.R.Kind), .pv (.int .i64 r.1.f_e.C.R.Num), .pv (.int .i64 r.1.f_e.C.R.Var), .pv (.sl (List.map e_check_Expr r.1.f_e.C.R.Kids)), .pv (.bool r.1.f_a.N.None), .pv (.sl (List.map e_itv_Itv r.1.f_a.N.I)), .pv (.int .i64 r.1.f_a.N.Z.N), .pv (.bool r.1.f_a.N.Z.None)] ++ (bs (e_T42 r.1.f_a.N.Z.D) ++ ([.row 1, .row 2, .pv (.int .i64 r.1.f_sent.Chan), .pv (.int .i64 r.1.f_sent.Tag), .pv (.int .i64 r.1.f_sent.Vals.Lo), .pv (.int .i64 r.1.f_sent.Vals.Hi)] ++ bs (e_T92 r.1.f_errors))))), some (.row true true 53 2 (List.map e_itv_Itv r.1.f_a.Counts)), some (.row true true 85 1 (List.map e_rule_Set r.1.f_a.Rules))] := by
  refine meetsW_of (N := 48) r_trans_stepper_ruled o_trans_stepper_ruled r Try.func63 rfl rfl rfl (by dsimp only [argEnv]) rfl ?_
  unfold trans_stepper_ruled at h
  refine seq_ ?_
  refine region_ ?_
  refine B rfl rfl (bir_box rfl rfl rfl) rfl rfl (.s (.s (.s .z))) ?_
  refine R tbok 1 [4, 3, 0] [(4, [.c (.pv (.bool false))]), (3, [.c (.box 3 0)]), (0, [.c (.box 0 0)])] (by kernel_rfl) ?_
  refine ops_nil ?_
  refine then_ ?_
  refine seq_ ?_
  refine drawn_ mixed ?_
  refine dl (t := 8) 0 [.agg [.pv (.int .i64 a1.Kind), .pv (.int .i64 a1.Size), .pv (.int .i64 a1.From), .pv (.int .i64 a1.To), .pv (.int .i64 a1.Tags), .pv (.sl (List.map e_sl33 a1.Rule))]] rfl ?_
  refine dl (t := 9) 1 [.c (.box 0 0)] rfl ?_
  refine dl (t := 10) 2 [.c (.box 0 0)] rfl ?_
  refine dl (t := 11) 3 [.c (.box 0 27)] rfl ?_
  refine dl (t := 12) 4 [.c (.box 0 81)] rfl ?_
  refine dl (t := 13) 5 [.c (.row 2)] rfl ?_
  refine dl (t := 14) 6 [.c (.box 0 0)] rfl ?_
  refine dl (t := 15) 7 [.c (.box 0 0)] rfl ?_
  refine dl (t := 16) 8 [.c (.box 0 8)] rfl ?_
  refine dl (t := 17) 9 [.c (.box 0 12)] rfl ?_
  refine dl (t := 18) 10 [.c (.pv (.int .i64 a0.f_e.Chan))] rfl ?_
  obtain ⟨v1, k1, h⟩ := bindE h
  refine dl (t := 19) 11 [.c (.rp 2 1 (a0.f_e.Chan).toNat 0)] rfl ?_
  refine dl (t := 20) 12 [.c (.pv (.int .u8 v1))] rfl ?_
  refine dl (t := 21) 13 [.c (.box 0 0)] rfl ?_
  refine dl (t := 22) 14 [.c (.box 0 0)] rfl ?_
  refine dl (t := 23) 15 [.c (.box 0 8)] rfl ?_
  refine dl (t := 24) 16 [.c (.box 0 13)] rfl ?_
  refine dl (t := 25) 17 [.c (.pv (.int .i64 a0.f_e.Tag))] rfl ?_
  obtain ⟨v3, k3, h⟩ := bindE h
  refine dl (t := 26) 18 [.c (.pv (.int .u8 v3.1)), .c (.pv (.bool v3.2))] rfl ?_
  refine dl (t := 7) 19 [.c (.pv (.int .u8 v3.1)), .c (.pv (.bool v3.2))] rfl ?_
  refine dl (t := 27) 20 [.c (.pv (.int .u8 v3.1))] rfl ?_
  refine dl (t := 28) 21 [.c (.pv (.bool v3.2))] rfl ?_
  refine dl (t := 5) 22 [.c (.pv (.int .u8 v3.1))] rfl ?_
  refine dl (t := 6) 23 [.c (.pv (.bool v3.2))] rfl ?_
  refine d_endS (env2 := [(6, [.c (.pv (.bool v3.2))]), (5, [.c (.pv (.int .u8 v3.1))]), (4, [.c (.pv (.bool false))]), (0, [.c (.box 0 0)])]) (wm [0, 0, 2, 6, 14, 30, 0, 64, 192, 448, 960, 2046, 4094, 0, 8192, 24576, 57344, 122880, 262143, 524287, 1048575, 1048575, 2097151, 8388607]) (by kernel_rfl) (by kernel_rfl) (by kernel_rfl) (oE tbok [] 5 (by kernel_rfl) (oL [] rfl (by kernel_rfl) (fl_call rfl Try.call85 rfl (by kernel_rfl) (by kernel_rfl) (rule_Step_meets k3)) (oE tbok [] 5 (by kernel_rfl) (oL [] rfl (by kernel_rfl) (fl_lt (lt_load_rp rfl ty85 rfl rfl (row_at k1) rfl)) (oL [] rfl (by kernel_rfl) (fl_lt (ia_row (e := e_rule_Set) rfl u47 ty85 rfl rfl rfl k1)) (oE tbok [] 11 (by kernel_rfl) trivial)))))) (sub_cons rfl (sub_cons rfl (sub_cons rfl (sub_cons rfl sub_nil)))) wT ?_
  refine then_ ?_
  refine seq_ ?_
  refine region_ ?_
  refine R tbok 4 [32, 30, 5, 4, 0] [(32, [.c (.box 0 86)]), (30, [.c (.pv (.bool v3.2))]), (5, [.c (.pv (.int .u8 v3.1))]), (4, [.c (.pv (.bool false))]), (0, [.c (.box 0 0)])] (by kernel_rfl) ?_
  refine L rfl rfl (ia_box rfl u92 ty4 rfl rfl rfl 92 rfl) rfl ?_
  obtain ⟨v4, k4, h⟩ := bindE h
  refine SD ([.pv (.sl (List.map e_check_Chan v4.f_w.S.Chans)), .pv (.sl (List.map e_flow_Graph v4.f_w.S.Graphs)), .pv (.sl (List.map e_i64 v4.f_w.S.Vars)), .pv (.sl (List.map e_queue_Elem v4.f_w.Elems)), .pv (.sl (List.map e_bool v4.f_w.Deaf)), .pv (.int .i64 v4.f_proc), .pv (.sl (List.map e_i64 v4.f_out)), .pv (.int .i64 v4.f_at), .pv (.int .i64 v4.f_e.From), .pv (.int .i64 v4.f_e.To), .pv (.int .i64 v4.f_e.Kind), .pv (.int .i64 v4.f_e.Var), .pv (.int .i64 v4.f_e.Chan), .pv (.int .i64 v4.f_e.Tag), .pv (.int .i64 v4.f_e.E.Kind), .pv (.int .i64 v4.f_e.E.Num), .pv (.int .i64 v4.f_e.E.Var), .pv (.sl (List.map e_check_Expr v4.f_e.E.Kids)), .pv (.int .i64 v4.f_e.C.Op), .pv (.int .i64 v4.f_e.C.L.Kind), .pv (.int .i64 v4.f_e.C.L.Num), .pv (.int .i64 v4.f_e.C.L.Var), .pv (.sl (List.map e_check_Expr v4.f_e.C.L.Kids)), .pv (.int .i64 v4.f_e.C.R.Kind), .pv (.int .i64 v4.f_e.C.R.Num), .pv (.int .i64 v4.f_e.C.R.Var), .pv (.sl (List.map e_check_Expr v4.f_e.C.R.Kids)), .pv (.bool v4.f_a.N.None), .pv (.sl (List.map e_itv_Itv v4.f_a.N.I)), .pv (.int .i64 v4.f_a.N.Z.N), .pv (.bool v4.f_a.N.Z.None)] ++ (bs (e_T42 v4.f_a.N.Z.D) ++ ([.row 1, .row 2, .pv (.int .i64 v4.f_sent.Chan), .pv (.int .i64 v4.f_sent.Tag), .pv (.int .i64 v4.f_sent.Vals.Lo), .pv (.int .i64 v4.f_sent.Vals.Hi)] ++ bs (e_T92 v4.f_errors)))) rfl rfl rfl ty4 (by decide) rfl rfl rfl rfl rfl (Nat.le_of_ble_eq_true rfl) (by rw [← retE k4]; kernel_rfl) (SetAt.eq .z) ?_
  refine ops_nil ?_
  refine then_ ?_
  refine seq_ ?_
  refine drawn_ mixed ?_
  refine dl (t := 34) 0 [.c (.box 0 0)] rfl ?_
  refine dl (t := 35) 1 [.c (.box 0 0)] rfl ?_
  refine dl (t := 36) 2 [.c (.box 0 27)] rfl ?_
  refine dl (t := 37) 3 [.c (.box 0 81)] rfl ?_
  refine dl (t := 38) 4 [.c (.row 2)] rfl ?_
  refine dl (t := 39) 5 [.c (.box 0 0)] rfl ?_
  refine dl (t := 40) 6 [.c (.box 0 0)] rfl ?_
  refine dl (t := 41) 7 [.c (.box 0 8)] rfl ?_
  refine dl (t := 42) 8 [.c (.box 0 12)] rfl ?_
  refine dl (t := 43) 9 [.c (.pv (.int .i64 v4.f_e.Chan))] rfl ?_
  refine dl (t := 44) 10 [.c (.pv (.int .u8 v3.1))] rfl ?_
  obtain ⟨v5, k5, h⟩ := bindE h
  refine dl (t := 45) 11 [.c (.rp 2 1 (v4.f_e.Chan).toNat 0)] rfl ?_
  refine d_storeR (wm [0, 1, 3, 7, 15, 0, 32, 96, 224, 480, 0, 2047, 4095]) 12 rfl (by kernel_rfl) (by kernel_rfl) (by kernel_rfl) (by kernel_rfl) (by kernel_rfl) (gi0 rfl) (oL [] rfl (by kernel_rfl) (fl_lt (ia_row (e := e_rule_Set) rfl u47 ty85 rfl rfl rfl k5)) (oE tbok [] 11 (by kernel_rfl) trivial)) rfl rfl ty85 rfl rfl (row_at k5) rfl rfl rfl rfl rfl (st' := [some (.box true 94 ([.pv (.sl (List.map e_check_Chan v4.f_w.S.Chans)), .pv (.sl (List.map e_flow_Graph v4.f_w.S.Graphs)), .pv (.sl (List.map e_i64 v4.f_w.S.Vars)), .pv (.sl (List.map e_queue_Elem v4.f_w.Elems)), .pv (.sl (List.map e_bool v4.f_w.Deaf)), .pv (.int .i64 v4.f_proc), .pv (.sl (List.map e_i64 v4.f_out)), .pv (.int .i64 v4.f_at), .pv (.int .i64 v4.f_e.From), .pv (.int .i64 v4.f_e.To), .pv (.int .i64 v4.f_e.Kind), .pv (.int .i64 v4.f_e.Var), .pv (.int .i64 v4.f_e.Chan), .pv (.int .i64 v4.f_e.Tag), .pv (.int .i64 v4.f_e.E.Kind), .pv (.int .i64 v4.f_e.E.Num), .pv (.int .i64 v4.f_e.E.Var), .pv (.sl (List.map e_check_Expr v4.f_e.E.Kids)), .pv (.int .i64 v4.f_e.C.Op), .pv (.int .i64 v4.f_e.C.L.Kind), .pv (.int .i64 v4.f_e.C.L.Num), .pv (.int .i64 v4.f_e.C.L.Var), .pv (.sl (List.map e_check_Expr v4.f_e.C.L.Kids)), .pv (.int .i64 v4.f_e.C.R.Kind), .pv (.int .i64 v4.f_e.C.R.Num), .pv (.int .i64 v4.f_e.C.R.Var), .pv (.sl (List.map e_check_Expr v4.f_e.C.R.Kids)), .pv (.bool v4.f_a.N.None), .pv (.sl (List.map e_itv_Itv v4.f_a.N.I)), .pv (.int .i64 v4.f_a.N.Z.N), .pv (.bool v4.f_a.N.Z.None)] ++ (bs (e_T42 v4.f_a.N.Z.D) ++ ([.row 1, .row 2, .pv (.int .i64 v4.f_sent.Chan), .pv (.int .i64 v4.f_sent.Tag), .pv (.int .i64 v4.f_sent.Vals.Lo), .pv (.int .i64 v4.f_sent.Vals.Hi)] ++ bs (e_T92 v4.f_errors))))), some (.row true false 53 2 (List.map e_itv_Itv a0.f_a.Counts)), some (.row true false 85 1 (List.map e_rule_Set (seti a0.f_a.Rules v4.f_e.Chan v3.1))), some (.box true 73 [.pv (.int .i64 a1.Kind), .pv (.int .i64 a1.Size), .pv (.int .i64 a1.From), .pv (.int .i64 a1.To), .pv (.int .i64 a1.Tags), .pv (.sl (List.map e_sl33 a1.Rule))])]) (set_row (e := e_rule_Set) k5 (z' := v3.1) rfl (.s (.s .z))) ?_
  refine d_endS (env2 := [(5, [.c (.pv (.int .u8 v3.1))]), (4, [.c (.pv (.bool false))])]) (wm [0, 1, 3, 7, 15, 0, 32, 96, 224, 480, 0, 2047, 4095]) (by kernel_rfl) (by kernel_rfl) (by kernel_rfl) (oN 13 (by kernel_rfl) trivial) (sub_cons rfl (sub_cons rfl sub_nil)) wT ?_
  refine then_ ?_
  refine seq_ ?_
  refine region_ ?_
  refine R tbok 3 [4] [(4, [.c (.pv (.bool (v3.1 != 0)))])] (by kernel_rfl) ?_
  refine ops_nil ?_
  refine then_ ?_
  refine ret_ ?_
  obtain rfl := retE h
  refine rwr (rw_ (.tmp rfl .nil) ?_)
  refine w_none 3 (.s (.s (.s .z))) ?_
  refine w_ch 1 rfl (.s .z) ?_
  refine w_ch 2 rfl (.s (.s .z)) ?_
  refine w_cut 3 rfl rfl rfl rfl ?_
  exact wkE (by kernel_rfl) (by kernel_rfl)
end Go.Proofs.Ytbebnddalipfhaa.Abs
