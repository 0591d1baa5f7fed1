/- Gb: the walks. -/
import Derived.Test.YtbebnddalipfhaaGreatGbD
import Derived.Test.YtbebnddalipfhaaGreatGbF
namespace Go.Proofs.YtbebnddalipfhaaGreat.Abs
open Go Go.RowKit
set_option linter.unusedVariables false
set_option maxRecDepth 100000
set_option maxHeartbeats 4000000
theorem trans_vars_meets {a0 : flow_Sys} {a1 : Int} {r : Int} (h : trans_vars a0 a1 = some r) : MeetsV Tryz.prog GG 47 [.agg [.pv (.sl (List.map e_check_Chan a0.Chans)), .pv (.sl (List.map e_flow_Graph a0.Graphs)), .pv (.sl (List.map e_i64 a0.Vars))], .c (.pv (.int .i64 a1))] [.c (.pv (.int .i64 r))] := by
  refine MeetsS.toV (meetsW_of (st0 := []) (N := 19) r_trans_vars o_trans_vars r Tryz.func47 rfl rfl rfl (by dsimp only [argEnv]) rfl ?_) rfl
  unfold trans_vars at h
  refine seq_ ?_
  refine region_ ?_
  refine B rfl rfl (bir_box rfl rfl rfl) rfl rfl .z ?_
  refine R tbok 1 [4, 2, 1] [(4, [.c (.pv (.int .i64 0))]), (2, [.c (.box 0 0)]), (1, [.c (.pv (.int .i64 a1))])] (by kernel_rfl) ?_
  refine ops_nil ?_
  refine then_ ?_
  refine seq_ ?_
  refine seq_ ?_
  refine jn_ (fun (j1 : Bool) => (⟨19, 0, [(1, [.c (.pv (.int .i64 a1))]), (2, [.c (.box 0 0)]), (4, [.c (.pv (.int .i64 0))]), (13, [.c (.pv (.bool j1))])], [some (.box true 40 [.pv (.sl (List.map e_check_Chan a0.Chans)), .pv (.sl (List.map e_flow_Graph a0.Graphs)), .pv (.sl (List.map e_i64 a0.Vars))])]⟩ : Sx)) h wT (fun o h => ?_) (fun j1 h => ?_)
  · refine region_ ?_
    refine R tbok 3 [7, 4, 2, 1] [(7, [.c (.pv (.bool (decide (a1 < 0))))]), (4, [.c (.pv (.int .i64 0))]), (2, [.c (.box 0 0)]), (1, [.c (.pv (.int .i64 a1))])] (by kernel_rfl) ?_
    refine (tf (decide (a1 < 0))).elim (fun k1 => ?_) (fun k1 => ?_)
    · have h := iteT h k1
      refine Ls0 rfl rfl rfl k1 rfl rfl ?_
      refine Ls0 rfl rfl rfl k1 rfl rfl ?_
      refine Ls0 rfl rfl rfl k1 rfl rfl ?_
      refine Ls0 rfl rfl rfl k1 rfl rfl ?_
      refine Ls0 rfl rfl rfl k1 rfl rfl ?_
      refine L rfl rfl (lt_pickT rfl rfl k1 rfl) rfl ?_
      refine ops_nil ?_
      obtain rfl := retE h
      refine mN ?_
      refine w_sub (env' := [(1, [.c (.pv (.int .i64 a1))]), (2, [.c (.box 0 0)]), (4, [.c (.pv (.int .i64 0))]), (13, [.c (.pv (.bool true))])]) (sub_cons rfl (sub_cons rfl (sub_cons rfl (sub_cons rfl sub_nil)))) ?_
      exact wkE (by kernel_rfl) (by kernel_rfl)
    · have h := iteF h k1
      refine Lg rfl rfl rfl k1 rfl (lt_move rfl rfl) rfl ?_
      refine Lg rfl rfl rfl k1 rfl (lt_fa_box rfl f40_2 ty29 (by decide) rfl) rfl ?_
      refine Lg rfl rfl rfl k1 rfl (lt_load_box rfl ty29 rfl rfl rfl) rfl ?_
      refine Lg rfl rfl rfl k1 rfl (len_sl (e := e_i64) rfl u29 rfl) rfl ?_
      refine Lg rfl rfl rfl k1 rfl (lt_int rfl rfl rfl rfl) rfl ?_
      refine L rfl rfl (lt_pickF rfl rfl k1 rfl) rfl ?_
      refine ops_nil ?_
      obtain rfl := retE h
      refine mN ?_
      refine w_sub (env' := [(1, [.c (.pv (.int .i64 a1))]), (2, [.c (.box 0 0)]), (4, [.c (.pv (.int .i64 0))]), (13, [.c (.pv (.bool (decide (a1 ≥ (a0.Vars.length : Int)))))])]) (sub_cons rfl (sub_cons rfl (sub_cons rfl (sub_cons rfl sub_nil)))) ?_
      exact wkE (by kernel_rfl) (by kernel_rfl)
  · refine then_ ?_
    refine cond_ (b := j1) rfl (fun k2 => ?_) (fun k2 => ?_)
    · have h := iteT h k2
      refine seq_ ?_
      refine region_ ?_
      refine R tbok 1 [4, 1, 2] [(4, [.c (.pv (.int .i64 0))]), (1, [.c (.pv (.int .i64 a1))]), (2, [.c (.box 0 0)])] (by kernel_rfl) ?_
      refine ops_nil ?_
      refine then_ ?_
      refine ret_ ?_
      obtain rfl := retE h
      refine tR (rwr (rw_ (.tmp rfl .nil) ?_))
      refine w_none 0 .z ?_
      refine w_cut 0 rfl rfl rfl rfl ?_
      exact wkE (by kernel_rfl) (by kernel_rfl)
    · have h := iteF h k2
      refine skip_ ?_
      refine then_ ?_
      refine seq_ ?_
      refine region_ ?_
      refine R tbok 3 [16, 15, 4] [(16, [.c (.pv (.int .i64 a1))]), (15, [.c (.pv (.sl (List.map e_i64 a0.Vars)))]), (4, [.c (.pv (.int .i64 0))])] (by kernel_rfl) ?_
      obtain ⟨v1, k3, h⟩ := bindE h
      refine L rfl rfl (ia_sl (e := e_i64) (y := v1) rfl u29 ty3 rfl rfl k3 rfl) rfl ?_
      refine R tbok 2 [4] [(4, [.c (.pv (.int .i64 v1))])] (by kernel_rfl) ?_
      refine ops_nil ?_
      refine then_ ?_
      refine ret_ ?_
      obtain rfl := retE h
      refine rwr (rw_ (.tmp rfl .nil) ?_)
      refine w_none 0 .z ?_
      refine w_cut 0 rfl rfl rfl rfl ?_
      exact wkE (by kernel_rfl) (by kernel_rfl)

theorem zone_Zeros_meets {a0 : Int} {r : zone_Zone} (h : zone_Zeros a0 = some r) : MeetsV Tryz.prog GG 91 [.c (.pv (.int .i64 a0))] [.agg (bs (e_zone_Zone r))] := by
  refine MeetsS.toV (meetsW_of (st0 := []) (N := 7) r_zone_Zeros o_zone_Zeros r Tryz.func91 rfl rfl rfl (by dsimp only [argEnv]) rfl ?_) rfl
  unfold zone_Zeros at h
  refine seq_ ?_
  refine region_ ?_
  refine B rfl rfl (bir_alloc rfl z62 rfl rfl) rfl rfl .z ?_
  refine ops_nil ?_
  refine then_ ?_
  refine seq_ ?_
  refine region_ ?_
  refine R tbok 1 [3, 2] [(3, [.c (.pv (.int .i64 a0))]), (2, [.c (.box 0 0)])] (by kernel_rfl) ?_
  refine L rfl rfl (lt_max2 rfl rfl rfl) rfl ?_
  refine L rfl rfl (lt_min2 rfl rfl rfl) rfl ?_
  refine L rfl rfl (lt_build (cs := (bs (e_zone_Zone (zone_Zone.mk (min (max a0 0) 6) false (arr (arr 0 []) [(arr 0 [0, 0, 0, 0, 0, 0, 0]), (arr 0 [0, 0, 0, 0, 0, 0, 0]), (arr 0 [0, 0, 0, 0, 0, 0, 0]), (arr 0 [0, 0, 0, 0, 0, 0, 0]), (arr 0 [0, 0, 0, 0, 0, 0, 0]), (arr 0 [0, 0, 0, 0, 0, 0, 0]), (arr 0 [0, 0, 0, 0, 0, 0, 0])]))))) rfl st62 rfl (by kernel_rfl)) rfl ?_
  refine S rfl rfl rfl ty62 (by decide) rfl rfl rfl rfl rfl (.all rfl) .z ?_
  refine ops_nil ?_
  refine then_ ?_
  refine ret_ ?_
  obtain rfl := retE h
  refine rwr (rw_ (.cellA (ys := (bs (e_zone_Zone (zone_Zone.mk (min (max a0 0) 6) false (arr (arr 0 []) [(arr 0 [0, 0, 0, 0, 0, 0, 0]), (arr 0 [0, 0, 0, 0, 0, 0, 0]), (arr 0 [0, 0, 0, 0, 0, 0, 0]), (arr 0 [0, 0, 0, 0, 0, 0, 0]), (arr 0 [0, 0, 0, 0, 0, 0, 0]), (arr 0 [0, 0, 0, 0, 0, 0, 0]), (arr 0 [0, 0, 0, 0, 0, 0, 0])]))))) ty62 rfl rfl (by kernel_rfl) (by kernel_rfl) .nil) ?_)
  refine w_none 0 .z ?_
  refine w_cut 0 rfl rfl rfl rfl ?_
  exact wkE (by kernel_rfl) (by kernel_rfl)

theorem zone_count_meets {a0 : Int} {r : Bool} (h : zone_count a0 = some r) : MeetsV Tryz.prog GG 116 [.c (.pv (.int .i64 a0))] [.c (.pv (.bool r))] := by
  refine MeetsS.toV (meetsW_of (st0 := []) (N := 9) r_zone_count o_zone_count r Tryz.func116 rfl rfl rfl (by dsimp only [argEnv]) rfl ?_) rfl
  unfold zone_count at h
  refine seq_ ?_
  refine region_ ?_
  refine R tbok 1 [2, 0] [(2, [.c (.pv (.bool false))]), (0, [.c (.pv (.int .i64 a0))])] (by kernel_rfl) ?_
  refine ops_nil ?_
  refine then_ ?_
  refine seq_ ?_
  refine jn_ (fun (j1 : Bool) => (⟨9, 0, [(2, [.c (.pv (.bool j1))])], []⟩ : Sx)) h wT (fun o h => ?_) (fun j1 h => ?_)
  · refine region_ ?_
    refine R tbok 3 [5, 2, 0] [(5, [.c (.pv (.bool (decide (a0 ≥ 0))))]), (2, [.c (.pv (.bool false))]), (0, [.c (.pv (.int .i64 a0))])] (by kernel_rfl) ?_
    refine (tf (decide (a0 ≥ 0))).elim (fun k1 => ?_) (fun k1 => ?_)
    · have h := iteT h k1
      refine Lg rfl rfl rfl k1 rfl (lt_move rfl rfl) rfl ?_
      refine Lg rfl rfl rfl k1 rfl (lt_int rfl rfl rfl rfl) rfl ?_
      refine L rfl rfl (lt_pickT rfl rfl k1 rfl) rfl ?_
      refine R tbok 1 [2] [(2, [.c (.pv (.bool (decide (a0 ≤ 6))))])] (by kernel_rfl) ?_
      refine ops_nil ?_
      obtain rfl := retE h
      refine mN ?_
      exact wkE (by kernel_rfl) (by kernel_rfl)
    · have h := iteF h k1
      refine Ls0 rfl rfl rfl k1 rfl rfl ?_
      refine Ls0 rfl rfl rfl k1 rfl rfl ?_
      refine L rfl rfl (lt_pickF rfl rfl k1 rfl) rfl ?_
      refine R tbok 1 [2] [(2, [.c (.pv (.bool false))])] (by kernel_rfl) ?_
      refine ops_nil ?_
      obtain rfl := retE h
      refine mN ?_
      exact wkE (by kernel_rfl) (by kernel_rfl)
  · refine then_ ?_
    refine ret_ ?_
    obtain rfl := retE h
    refine rwr (rw_ (.tmp rfl .nil) ?_)
    exact wkE (by kernel_rfl) (by kernel_rfl)

theorem zone_variable_meets {a0 : zone_Zone} {a1 : Int} {r : Bool} (h : zone_variable a0 a1 = some r) : MeetsV Tryz.prog GG 138 [.agg (bs (e_zone_Zone a0)), .c (.pv (.int .i64 a1))] [.c (.pv (.bool r))] := by
  refine MeetsS.toV (meetsW_of (st0 := []) (N := 23) r_zone_variable o_zone_variable r Tryz.func138 rfl rfl rfl (by dsimp only [argEnv]) rfl ?_) rfl
  unfold zone_variable at h
  refine seq_ ?_
  refine region_ ?_
  refine B rfl rfl (bir_box rfl rfl rfl) rfl rfl .z ?_
  refine R tbok 1 [4, 2, 1] [(4, [.c (.pv (.bool false))]), (2, [.c (.box 0 0)]), (1, [.c (.pv (.int .i64 a1))])] (by kernel_rfl) ?_
  refine ops_nil ?_
  refine then_ ?_
  refine seq_ ?_
  refine jn_ (fun (j1 : Bool) => (⟨23, 0, [(4, [.c (.pv (.bool j1))])], []⟩ : Sx)) h wT (fun o h => ?_) (fun j1 h => ?_)
  · refine region_ ?_
    refine R tbok 2 [6, 4, 2, 1] [(6, [.c (.pv (.int .i64 a0.N))]), (4, [.c (.pv (.bool false))]), (2, [.c (.box 0 0)]), (1, [.c (.pv (.int .i64 a1))])] (by kernel_rfl) ?_
    obtain ⟨v1, k1, h⟩ := bindE h
    refine C rfl rfl (fl_call rfl Tryz.call116 rfl (by kernel_rfl) (by kernel_rfl) (zone_count_meets k1)) rfl ?_
    refine R tbok 1 [8, 4, 2, 1] [(8, [.c (.pv (.bool v1))]), (4, [.c (.pv (.bool false))]), (2, [.c (.box 0 0)]), (1, [.c (.pv (.int .i64 a1))])] (by kernel_rfl) ?_
    refine (tf v1).elim (fun k2 => ?_) (fun k2 => ?_)
    · have h := iteT h k2
      refine Lg rfl rfl rfl k2 rfl (lt_fa_box rfl f62_1 ty4 (by decide) rfl) rfl ?_
      refine Lg rfl rfl rfl k2 rfl (lt_load_box rfl ty4 rfl rfl rfl) rfl ?_
      refine Lg rfl rfl rfl k2 rfl (lt_not rfl rfl) rfl ?_
      refine L rfl rfl (lt_pickT rfl rfl k2 rfl) rfl ?_
      refine R tbok 1 [13, 4, 2, 1] [(13, [.c (.pv (.bool (!a0.None)))]), (4, [.c (.pv (.bool false))]), (2, [.c (.box 0 0)]), (1, [.c (.pv (.int .i64 a1))])] (by kernel_rfl) ?_
      refine (tf (!a0.None)).elim (fun k3 => ?_) (fun k3 => ?_)
      · have h := iteT h k3
        refine Lg rfl rfl rfl k3 rfl (lt_move rfl rfl) rfl ?_
        refine Lg rfl rfl rfl k3 rfl (lt_int rfl rfl rfl rfl) rfl ?_
        refine L rfl rfl (lt_pickT rfl rfl k3 rfl) rfl ?_
        refine R tbok 1 [17, 4, 2, 1] [(17, [.c (.pv (.bool (decide (a1 ≥ 0))))]), (4, [.c (.pv (.bool false))]), (2, [.c (.box 0 0)]), (1, [.c (.pv (.int .i64 a1))])] (by kernel_rfl) ?_
        refine (tf (decide (a1 ≥ 0))).elim (fun k4 => ?_) (fun k4 => ?_)
        · have h := iteT h k4
          refine Lg rfl rfl rfl k4 rfl (lt_move rfl rfl) rfl ?_
          refine Lg rfl rfl rfl k4 rfl (lt_fa_box rfl f62_0 ty3 (by decide) rfl) rfl ?_
          refine Lg rfl rfl rfl k4 rfl (lt_load_box rfl ty3 rfl rfl rfl) rfl ?_
          refine Lg rfl rfl rfl k4 rfl (lt_int rfl rfl rfl rfl) rfl ?_
          refine L rfl rfl (lt_pickT rfl rfl k4 rfl) rfl ?_
          refine R tbok 1 [4] [(4, [.c (.pv (.bool (decide (a1 < a0.N))))])] (by kernel_rfl) ?_
          refine ops_nil ?_
          obtain rfl := retE h
          refine mN ?_
          refine w_cut 0 rfl rfl rfl rfl ?_
          exact wkE (by kernel_rfl) (by kernel_rfl)
        · have h := iteF h k4
          refine Ls0 rfl rfl rfl k4 rfl rfl ?_
          refine Ls0 rfl rfl rfl k4 rfl rfl ?_
          refine Ls0 rfl rfl rfl k4 rfl rfl ?_
          refine Ls0 rfl rfl rfl k4 rfl rfl ?_
          refine L rfl rfl (lt_pickF rfl rfl k4 rfl) rfl ?_
          refine R tbok 1 [4] [(4, [.c (.pv (.bool false))])] (by kernel_rfl) ?_
          refine ops_nil ?_
          obtain rfl := retE h
          refine mN ?_
          refine w_cut 0 rfl rfl rfl rfl ?_
          exact wkE (by kernel_rfl) (by kernel_rfl)
      · have h := iteF h k3
        refine Ls0 rfl rfl rfl k3 rfl rfl ?_
        refine Ls0 rfl rfl rfl k3 rfl rfl ?_
        refine L rfl rfl (lt_pickF rfl rfl k3 rfl) rfl ?_
        refine R tbok 1 [17, 4, 2, 1] [(17, [.c (.pv (.bool false))]), (4, [.c (.pv (.bool false))]), (2, [.c (.box 0 0)]), (1, [.c (.pv (.int .i64 a1))])] (by kernel_rfl) ?_
        refine Ls0 rfl rfl rfl rfl rfl rfl ?_
        refine Ls0 rfl rfl rfl rfl rfl rfl ?_
        refine Ls0 rfl rfl rfl rfl rfl rfl ?_
        refine Ls0 rfl rfl rfl rfl rfl rfl ?_
        refine L rfl rfl (lt_pickF rfl rfl rfl rfl) rfl ?_
        refine R tbok 1 [4] [(4, [.c (.pv (.bool false))])] (by kernel_rfl) ?_
        refine ops_nil ?_
        obtain rfl := retE h
        refine mN ?_
        refine w_cut 0 rfl rfl rfl rfl ?_
        exact wkE (by kernel_rfl) (by kernel_rfl)
    · have h := iteF h k2
      refine Ls0 rfl rfl rfl k2 rfl rfl ?_
      refine Ls0 rfl rfl rfl k2 rfl rfl ?_
      refine Ls0 rfl rfl rfl k2 rfl rfl ?_
      refine L rfl rfl (lt_pickF rfl rfl k2 rfl) rfl ?_
      refine R tbok 1 [13, 4, 2, 1] [(13, [.c (.pv (.bool false))]), (4, [.c (.pv (.bool false))]), (2, [.c (.box 0 0)]), (1, [.c (.pv (.int .i64 a1))])] (by kernel_rfl) ?_
      refine Ls0 rfl rfl rfl rfl rfl rfl ?_
      refine Ls0 rfl rfl rfl rfl rfl rfl ?_
      refine L rfl rfl (lt_pickF rfl rfl rfl rfl) rfl ?_
      refine R tbok 1 [17, 4, 2, 1] [(17, [.c (.pv (.bool false))]), (4, [.c (.pv (.bool false))]), (2, [.c (.box 0 0)]), (1, [.c (.pv (.int .i64 a1))])] (by kernel_rfl) ?_
      refine Ls0 rfl rfl rfl rfl rfl rfl ?_
      refine Ls0 rfl rfl rfl rfl rfl rfl ?_
      refine Ls0 rfl rfl rfl rfl rfl rfl ?_
      refine Ls0 rfl rfl rfl rfl rfl rfl ?_
      refine L rfl rfl (lt_pickF rfl rfl rfl rfl) rfl ?_
      refine R tbok 1 [4] [(4, [.c (.pv (.bool false))])] (by kernel_rfl) ?_
      refine ops_nil ?_
      obtain rfl := retE h
      refine mN ?_
      refine w_cut 0 rfl rfl rfl rfl ?_
      exact wkE (by kernel_rfl) (by kernel_rfl)
  · refine then_ ?_
    refine ret_ ?_
    obtain rfl := retE h
    refine rwr (rw_ (.tmp rfl .nil) ?_)
    exact wkE (by kernel_rfl) (by kernel_rfl)

theorem itv_None_meets {r : itv_Itv} (h : itv_None = some r) : MeetsV Tryz.prog GG 52 [] [.agg [.pv (.int .i64 r.Lo), .pv (.int .i64 r.Hi)]] := by
  refine MeetsS.toV (meetsW_of (st0 := []) (N := 2) r_itv_None o_itv_None r Tryz.func52 rfl rfl rfl (by dsimp only [argEnv]) rfl ?_) rfl
  unfold itv_None at h
  refine seq_ ?_
  refine region_ ?_
  refine B rfl rfl (bir_alloc rfl z72 rfl rfl) rfl rfl .z ?_
  refine ops_nil ?_
  refine then_ ?_
  refine seq_ ?_
  refine region_ ?_
  refine L rfl rfl (lt_build (cs := [.pv (.int .i64 1), .pv (.int .i64 0)]) rfl st72 rfl (by kernel_rfl)) rfl ?_
  refine S rfl rfl rfl ty72 (by decide) rfl rfl rfl rfl rfl (.all rfl) .z ?_
  refine ops_nil ?_
  refine then_ ?_
  refine ret_ ?_
  obtain rfl := retE h
  refine rwr (rw_ (.cellA (ys := [.pv (.int .i64 1), .pv (.int .i64 0)]) ty72 rfl rfl (by kernel_rfl) (by kernel_rfl) .nil) ?_)
  refine w_none 0 .z ?_
  refine w_cut 0 rfl rfl rfl rfl ?_
  exact wkE (by kernel_rfl) (by kernel_rfl)

theorem itv_Empty_meets {a0 : itv_Itv} {r : Bool} (h : itv_Empty a0 = some r) : MeetsV Tryz.prog GG 106 [.agg [.pv (.int .i64 a0.Lo), .pv (.int .i64 a0.Hi)]] [.c (.pv (.bool r))] := by
  refine MeetsS.toV (meetsW_of (st0 := []) (N := 8) r_itv_Empty o_itv_Empty r Tryz.func106 rfl rfl rfl (by dsimp only [argEnv]) rfl ?_) rfl
  unfold itv_Empty at h
  refine seq_ ?_
  refine region_ ?_
  refine B rfl rfl (bir_box rfl rfl rfl) rfl rfl .z ?_
  refine R tbok 1 [2, 1] [(2, [.c (.pv (.bool false))]), (1, [.c (.box 0 0)])] (by kernel_rfl) ?_
  refine ops_nil ?_
  refine then_ ?_
  refine seq_ ?_
  refine region_ ?_
  refine R tbok 6 [2] [(2, [.c (.pv (.bool (decide (a0.Lo > a0.Hi))))])] (by kernel_rfl) ?_
  refine ops_nil ?_
  refine then_ ?_
  refine ret_ ?_
  obtain rfl := retE h
  refine rwr (rw_ (.tmp rfl .nil) ?_)
  refine w_none 0 .z ?_
  refine w_cut 0 rfl rfl rfl rfl ?_
  exact wkE (by kernel_rfl) (by kernel_rfl)

theorem itv_norm_meets {a0 : itv_Itv} {r : itv_Itv} (h : itv_norm a0 = some r) : MeetsV Tryz.prog GG 109 [.agg [.pv (.int .i64 a0.Lo), .pv (.int .i64 a0.Hi)]] [.agg [.pv (.int .i64 r.Lo), .pv (.int .i64 r.Hi)]] := by
  refine MeetsS.toV (meetsW_of (st0 := []) (N := 7) r_itv_norm o_itv_norm r Tryz.func109 rfl rfl rfl (by dsimp only [argEnv]) rfl ?_) rfl
  unfold itv_norm at h
  refine seq_ ?_
  refine region_ ?_
  refine B rfl rfl (bir_box rfl rfl rfl) rfl rfl .z ?_
  refine B rfl rfl (bir_alloc rfl z72 rfl rfl) rfl rfl (.s .z) ?_
  refine ops_nil ?_
  refine then_ ?_
  refine seq_ ?_
  refine seq_ ?_
  refine region_ ?_
  refine R tbok 1 [3, 2, 1] [(3, [.agg [.pv (.int .i64 a0.Lo), .pv (.int .i64 a0.Hi)]]), (2, [.c (.box 1 0)]), (1, [.c (.box 0 0)])] (by kernel_rfl) ?_
  obtain ⟨v1, k1, h⟩ := bindE h
  refine C rfl rfl (fl_call rfl Tryz.call106 rfl (by kernel_rfl) (by kernel_rfl) (itv_Empty_meets k1)) rfl ?_
  refine ops_nil ?_
  refine then_ ?_
  refine cond_ (b := v1) rfl (fun k2 => ?_) (fun k2 => ?_)
  · have h := iteT h k2
    refine seq_ ?_
    refine region_ ?_
    obtain ⟨v2, k3, h⟩ := bindE h
    refine C rfl rfl (fl_call rfl Tryz.call52 rfl (by kernel_rfl) (by kernel_rfl) (itv_None_meets k3)) rfl ?_
    refine S rfl rfl rfl ty72 (by decide) rfl rfl rfl rfl rfl (.all rfl) (.s .z) ?_
    refine ops_nil ?_
    refine then_ ?_
    refine ret_ ?_
    obtain rfl := retE h
    refine tR (rwr (rw_ (.cellA (ys := [.pv (.int .i64 v2.Lo), .pv (.int .i64 v2.Hi)]) ty72 rfl rfl (by kernel_rfl) (by kernel_rfl) .nil) ?_))
    refine w_none 0 .z ?_
    refine w_none 1 (.s .z) ?_
    refine w_cut 0 rfl rfl rfl rfl ?_
    exact wkE (by kernel_rfl) (by kernel_rfl)
  · have h := iteF h k2
    refine skip_ ?_
    refine then_ ?_
    refine seq_ ?_
    refine region_ ?_
    refine R tbok 1 [6, 2] [(6, [.agg [.pv (.int .i64 a0.Lo), .pv (.int .i64 a0.Hi)]]), (2, [.c (.box 1 0)])] (by kernel_rfl) ?_
    refine S rfl rfl rfl ty72 (by decide) rfl rfl rfl rfl rfl (.all rfl) (.s .z) ?_
    refine ops_nil ?_
    refine then_ ?_
    refine ret_ ?_
    obtain rfl := retE h
    refine rwr (rw_ (.cellA (ys := [.pv (.int .i64 a0.Lo), .pv (.int .i64 a0.Hi)]) ty72 rfl rfl (by kernel_rfl) (by kernel_rfl) .nil) ?_)
    refine w_none 0 .z ?_
    refine w_none 1 (.s .z) ?_
    refine w_cut 0 rfl rfl rfl rfl ?_
    exact wkE (by kernel_rfl) (by kernel_rfl)

theorem itv_Of_meets {a0 : Int} {a1 : Int} {r : itv_Itv} (h : itv_Of a0 a1 = some r) : MeetsV Tryz.prog GG 62 [.c (.pv (.int .i64 a0)), .c (.pv (.int .i64 a1))] [.agg [.pv (.int .i64 r.Lo), .pv (.int .i64 r.Hi)]] := by
  refine MeetsS.toV (meetsW_of (st0 := []) (N := 11) r_itv_Of o_itv_Of r Tryz.func62 rfl rfl rfl (by dsimp only [argEnv]) rfl ?_) rfl
  unfold itv_Of at h
  refine seq_ ?_
  refine region_ ?_
  refine B rfl rfl (bir_alloc rfl z72 rfl rfl) rfl rfl .z ?_
  refine ops_nil ?_
  refine then_ ?_
  refine seq_ ?_
  refine region_ ?_
  refine R tbok 1 [5, 4, 1] [(5, [.c (.pv (.int .i64 a0))]), (4, [.c (.box 0 0)]), (1, [.c (.pv (.int .i64 a1))])] (by kernel_rfl) ?_
  refine L rfl rfl (lt_max2 rfl rfl rfl) rfl ?_
  refine R tbok 1 [7, 6, 4] [(7, [.c (.pv (.int .i64 a1))]), (6, [.c (.pv (.int .i64 (max a0 (-2147483648))))]), (4, [.c (.box 0 0)])] (by kernel_rfl) ?_
  refine L rfl rfl (lt_min2 rfl rfl rfl) rfl ?_
  refine L rfl rfl (lt_build (cs := [.pv (.int .i64 (max a0 (-2147483648))), .pv (.int .i64 (min a1 2147483647))]) rfl st72 rfl (by kernel_rfl)) rfl ?_
  obtain ⟨v1, k1, h⟩ := bindE h
  refine C rfl rfl (fl_call rfl Tryz.call109 rfl (by kernel_rfl) (by kernel_rfl) (itv_norm_meets k1)) rfl ?_
  refine S rfl rfl rfl ty72 (by decide) rfl rfl rfl rfl rfl (.all rfl) .z ?_
  refine ops_nil ?_
  refine then_ ?_
  refine ret_ ?_
  obtain rfl := retE h
  refine rwr (rw_ (.cellA (ys := [.pv (.int .i64 v1.Lo), .pv (.int .i64 v1.Hi)]) ty72 rfl rfl (by kernel_rfl) (by kernel_rfl) .nil) ?_)
  refine w_none 0 .z ?_
  refine w_cut 0 rfl rfl rfl rfl ?_
  exact wkE (by kernel_rfl) (by kernel_rfl)

theorem zone_Itv_meets {a0 : zone_Zone} {a1 : Int} {r : itv_Itv} (h : zone_Itv a0 a1 = some r) : MeetsV Tryz.prog GG 92 [.agg (bs (e_zone_Zone a0)), .c (.pv (.int .i64 a1))] [.agg [.pv (.int .i64 r.Lo), .pv (.int .i64 r.Hi)]] := by
  refine MeetsS.toV (meetsW_of (st0 := []) (N := 24) r_zone_Itv o_zone_Itv r Tryz.func92 rfl rfl rfl (by dsimp only [argEnv]) rfl ?_) rfl
  unfold zone_Itv at h
  refine seq_ ?_
  refine region_ ?_
  refine B rfl rfl (bir_box rfl rfl rfl) rfl rfl .z ?_
  refine B rfl rfl (bir_alloc rfl z72 rfl rfl) rfl rfl (.s .z) ?_
  refine ops_nil ?_
  refine then_ ?_
  refine seq_ ?_
  refine seq_ ?_
  refine region_ ?_
  refine R tbok 2 [6, 5, 4, 2, 1] [(6, [.c (.pv (.int .i64 a1))]), (5, [.agg (bs (e_zone_Zone a0))]), (4, [.c (.box 1 0)]), (2, [.c (.box 0 0)]), (1, [.c (.pv (.int .i64 a1))])] (by kernel_rfl) ?_
  obtain ⟨v1, k1, h⟩ := bindE h
  refine C rfl rfl (fl_call rfl Tryz.call138 rfl (by kernel_rfl) (by kernel_rfl) (zone_variable_meets k1)) rfl ?_
  refine R tbok 1 [8, 4, 2, 1] [(8, [.c (.pv (.bool (!v1)))]), (4, [.c (.box 1 0)]), (2, [.c (.box 0 0)]), (1, [.c (.pv (.int .i64 a1))])] (by kernel_rfl) ?_
  refine ops_nil ?_
  refine then_ ?_
  refine cond_ (b := (!v1)) rfl (fun k2 => ?_) (fun k2 => ?_)
  · have h := iteT h k2
    refine seq_ ?_
    refine region_ ?_
    obtain ⟨v2, k3, h⟩ := bindE h
    refine C rfl rfl (fl_call rfl Tryz.call52 rfl (by kernel_rfl) (by kernel_rfl) (itv_None_meets k3)) rfl ?_
    refine S rfl rfl rfl ty72 (by decide) rfl rfl rfl rfl rfl (.all rfl) (.s .z) ?_
    refine ops_nil ?_
    refine then_ ?_
    refine ret_ ?_
    obtain rfl := retE h
    refine tR (rwr (rw_ (.cellA (ys := [.pv (.int .i64 v2.Lo), .pv (.int .i64 v2.Hi)]) ty72 rfl rfl (by kernel_rfl) (by kernel_rfl) .nil) ?_))
    refine w_none 0 .z ?_
    refine w_none 1 (.s .z) ?_
    refine w_cut 0 rfl rfl rfl rfl ?_
    exact wkE (by kernel_rfl) (by kernel_rfl)
  · have h := iteF h k2
    refine skip_ ?_
    refine then_ ?_
    refine seq_ ?_
    refine drawn_ mixed ?_
    refine dl (t := 10) 0 [.c (.pv (.int .i64 a1))] rfl ?_
    refine dl (t := 11) 1 [.c (.pv (.int .i64 (IntKind.i64.wrap (a1 + 1))))] rfl ?_
    refine dl (t := 12) 2 [.c (.box 0 2)] rfl ?_
    refine dl (t := 13) 3 [.c (.box 0 2)] rfl ?_
    obtain ⟨v3, k4, h⟩ := bindE h
    refine dl (t := 14) 4 [.c (.box 0 (2 + 0 * 7 + v3 * 1))] rfl ?_
    refine dl (t := 15) 5 [.c (.pv (.int .i64 ((a0.D 0) v3)))] rfl ?_
    refine dl (t := 16) 6 [.c (.pv (.int .i64 (IntKind.i64.wrap (0 - ((a0.D 0) v3)))))] rfl ?_
    refine dl (t := 17) 7 [.c (.pv (.int .i64 a1))] rfl ?_
    refine dl (t := 18) 8 [.c (.pv (.int .i64 (IntKind.i64.wrap (a1 + 1))))] rfl ?_
    refine dl (t := 19) 9 [.c (.box 0 2)] rfl ?_
    obtain ⟨v4, k5, h⟩ := bindE h
    refine dl (t := 20) 10 [.c (.box 0 (2 + v4 * 7))] rfl ?_
    refine dl (t := 21) 11 [.c (.box 0 (2 + v4 * 7 + 0 * 1))] rfl ?_
    refine dl (t := 22) 12 [.c (.pv (.int .i64 ((a0.D v4) 0)))] rfl ?_
    obtain ⟨v6, k7, h⟩ := bindE h
    refine dl (t := 23) 13 [.agg [.pv (.int .i64 v6.Lo), .pv (.int .i64 v6.Hi)]] rfl ?_
    refine d_store (wm [0, 1, 0, 4, 15, 31, 63, 0, 128, 0, 896, 1920, 3968, 8191, 16383]) 14 rfl (by kernel_rfl) (by kernel_rfl) (by kernel_rfl) (by kernel_rfl) (by kernel_rfl) (gi0 rfl) (oL [] rfl (by kernel_rfl) (fl_call rfl Tryz.call62 rfl (by kernel_rfl) (by kernel_rfl) (itv_Of_meets k7)) (oL [] rfl (by kernel_rfl) (fl_lt (lt_load_box rfl ty3 rfl rfl (at2 (e := (PV.int .i64)) (D2 := a0.D) (pre := [.int .i64 a0.N, .bool a0.None]) (post := []) (n1 := 7) (n2 := 7) (by kernel_rfl) (inA_lt k5) (by decide)))) (oL [] rfl (by kernel_rfl) (fl_lt (ia_boxD rfl u59 ty3 rfl rfl (kk := 0) (by rfl))) (oL [] rfl (by kernel_rfl) (fl_lt (ia_boxD rfl u60 ty59 rfl rfl k5)) (oE tbok [] 4 (by kernel_rfl) (oL [] rfl (by kernel_rfl) (fl_lt (lt_load_box rfl ty3 rfl rfl (at2 (e := (PV.int .i64)) (D2 := a0.D) (pre := [.int .i64 a0.N, .bool a0.None]) (post := []) (n1 := 7) (n2 := 7) (by kernel_rfl) (by decide) (inA_lt k4)))) (oL [] rfl (by kernel_rfl) (fl_lt (ia_boxD rfl u59 ty3 rfl rfl k4)) (oL [] rfl (by kernel_rfl) (fl_lt (ia_box rfl u60 ty59 rfl rfl rfl 2 rfl)) (oE tbok [] 3 (by kernel_rfl) trivial))))))))) rfl rfl ty72 rfl rfl rfl rfl rfl rfl (putE 2 (.all rfl) rfl (by decide)) (SetAt.eq (.s .z)) ?_
    refine d_endS (env2 := [(4, [.c (.box 1 0)])]) (wm [0, 1, 0, 4, 15, 31, 63, 0, 128, 0, 896, 1920, 3968, 8191, 16383]) (by kernel_rfl) (by kernel_rfl) (by kernel_rfl) (oN 15 (by kernel_rfl) trivial) (sub_cons rfl sub_nil) wT ?_
    refine then_ ?_
    refine ret_ ?_
    obtain rfl := retE h
    refine rwr (rw_ (.cellA (ys := [.pv (.int .i64 v6.Lo), .pv (.int .i64 v6.Hi)]) ty72 rfl rfl (by kernel_rfl) (by kernel_rfl) .nil) ?_)
    refine w_none 0 .z ?_
    refine w_none 1 (.s .z) ?_
    refine w_cut 0 rfl rfl rfl rfl ?_
    exact wkE (by kernel_rfl) (by kernel_rfl)

theorem num_of_meets {a0 : zone_Zone} {r : num_Num} (h : num_of a0 = some r) : MeetsV Tryz.prog GG 49 [.agg (bs (e_zone_Zone a0))] [.agg (bs (e_num_Num r))] := by
  refine MeetsS.toV (meetsW_of (st0 := []) (N := 26) r_num_of o_num_of r Tryz.func49 rfl rfl rfl (by dsimp only [argEnv]) rfl ?_) rfl
  unfold num_of at h
  refine seq_ ?_
  refine region_ ?_
  refine B rfl rfl (bir_box rfl rfl rfl) rfl rfl .z ?_
  refine B rfl rfl (bir_alloc rfl z64 rfl rfl) rfl rfl (.s .z) ?_
  refine ops_nil ?_
  refine then_ ?_
  refine seq_ ?_
  refine region_ ?_
  refine R tbok 3 [7, 6, 2, 1] [(7, [.agg (bs (e_zone_Zone a0))]), (6, [.c (.pv (.bool a0.None))]), (2, [.c (.box 1 0)]), (1, [.c (.box 0 0)])] (by kernel_rfl) ?_
  refine L rfl rfl (lt_build (cs := ([.pv (.bool a0.None), .emp, .pv (.int .i64 a0.N), .pv (.bool a0.None)] ++ bs (e_T60 a0.D))) rfl st64 rfl (by kernel_rfl)) rfl ?_
  refine B rfl rfl (bir_alloc rfl z64 rfl rfl) rfl rfl (.s (.s .z)) ?_
  refine S rfl rfl rfl ty64 (by decide) rfl rfl rfl rfl rfl (.all rfl) (.s (.s .z)) ?_
  refine ops_nil ?_
  refine then_ ?_
  refine seq_ ?_
  refine seq_ ?_
  refine region_ ?_
  refine R tbok 2 [10, 3, 2, 1] [(10, [.c (.pv (.int .i64 a0.N))]), (3, [.c (.box 2 0)]), (2, [.c (.box 1 0)]), (1, [.c (.box 0 0)])] (by kernel_rfl) ?_
  refine L rfl rfl (lt_max2 rfl rfl rfl) rfl ?_
  refine L rfl rfl (lt_min2 rfl rfl rfl) rfl ?_
  refine R tbok 1 [13, 12, 3, 2, 1] [(13, [.c (.pv (.int .i64 0))]), (12, [.c (.pv (.int .i64 (min (max a0.N 0) 6)))]), (3, [.c (.box 2 0)]), (2, [.c (.box 1 0)]), (1, [.c (.box 0 0)])] (by kernel_rfl) ?_
  refine ops_nil ?_
  refine then_ ?_
  refine CodeT.weak (w_liftC 2 1 72 2 rfl rfl (.s .z) (.s (.s .z)) (.s (.s (.s .z))) (Weak.refl _)) ?_
  refine lp_ (Qr := RW Tryz.prog GG Tryz.f49 0 r_num_of o_num_of) (num_of_l2 a0) (fun (x2 : (Int × num_Num × (List itv_Itv))) => (⟨26, 0, [(1, [.c (.box 0 0)]), (2, [.c (.box 1 0)]), (3, [.c (.box 2 0)]), (12, [.c (.pv (.int .i64 (min (max a0.N 0) 6)))]), (13, [.c (.pv (.int .i64 x2.1))])], [some (.box true 62 (bs (e_zone_Zone a0))), some (.box true 64 ([.pv (.bool false), .emp, .pv (.int .i64 0), .pv (.bool false)] ++ bs (e_T60 (arr (arr 0 []) [(arr 0 [0, 0, 0, 0, 0, 0, 0]), (arr 0 [0, 0, 0, 0, 0, 0, 0]), (arr 0 [0, 0, 0, 0, 0, 0, 0]), (arr 0 [0, 0, 0, 0, 0, 0, 0]), (arr 0 [0, 0, 0, 0, 0, 0, 0]), (arr 0 [0, 0, 0, 0, 0, 0, 0]), (arr 0 [0, 0, 0, 0, 0, 0, 0])])))), some (.box true 64 ([.pv (.bool x2.2.1.None), .row 3, .pv (.int .i64 x2.2.1.Z.N), .pv (.bool x2.2.1.Z.None)] ++ bs (e_T60 x2.2.1.Z.D))), some (.row true true 72 2 (List.map e_itv_Itv x2.2.2))]⟩ : Sx)) (fun (j2 : (num_Num × (List itv_Itv))) => (⟨26, 0, [(2, [.c (.box 1 0)]), (3, [.c (.box 2 0)])], [none, some (.box true 64 ([.pv (.bool false), .emp, .pv (.int .i64 0), .pv (.bool false)] ++ bs (e_T60 (arr (arr 0 []) [(arr 0 [0, 0, 0, 0, 0, 0, 0]), (arr 0 [0, 0, 0, 0, 0, 0, 0]), (arr 0 [0, 0, 0, 0, 0, 0, 0]), (arr 0 [0, 0, 0, 0, 0, 0, 0]), (arr 0 [0, 0, 0, 0, 0, 0, 0]), (arr 0 [0, 0, 0, 0, 0, 0, 0]), (arr 0 [0, 0, 0, 0, 0, 0, 0])])))), some (.box true 64 ([.pv (.bool j2.1.None), .row 3, .pv (.int .i64 j2.1.Z.N), .pv (.bool j2.1.Z.None)] ++ bs (e_T60 j2.1.Z.D))), some (.row true true 72 2 (List.map e_itv_Itv j2.2))]⟩ : Sx)) (0, (num_Num.mk a0.None [] a0), []) RW.only h wT ?_ (fun x2 o h => ?_) (fun r h s' hs => ?_) (fun j2 h => ?_)
  · refine w_sub (env' := [(1, [.c (.box 0 0)]), (2, [.c (.box 1 0)]), (3, [.c (.box 2 0)]), (12, [.c (.pv (.int .i64 (min (max a0.N 0) 6)))]), (13, [.c (.pv (.int .i64 0))])]) (sub_cons rfl (sub_cons rfl (sub_cons rfl (sub_cons rfl (sub_cons rfl sub_nil))))) ?_
    refine w_ch 3 rfl (.s (.s (.s .z))) ?_
    exact wkE (by kernel_rfl) (by kernel_rfl)
  · unfold num_of_l2 at h
    refine seq_ ?_
    refine region_ ?_
    refine R tbok 1 [14, 1, 2, 3, 12, 13] [(14, [.c (.pv (.bool (decide (x2.1 < (min (max a0.N 0) 6)))))]), (1, [.c (.box 0 0)]), (2, [.c (.box 1 0)]), (3, [.c (.box 2 0)]), (12, [.c (.pv (.int .i64 (min (max a0.N 0) 6)))]), (13, [.c (.pv (.int .i64 x2.1))])] (by kernel_rfl) ?_
    refine ops_nil ?_
    refine then_ ?_
    refine seq_ ?_
    refine cond_ (b := (decide (x2.1 < (min (max a0.N 0) 6)))) rfl (fun k1 => ?_) (fun k1 => ?_)
    · have h := iteT h k1
      refine skip_ ?_
      refine then_ ?_
      refine seq_ ?_
      refine block_ ?_
      refine seq_ ?_
      refine region_ ?_
      refine R tbok 2 [4, 1, 2, 3, 12, 13] [(4, [.c (.pv (.int .i64 x2.1))]), (1, [.c (.box 0 0)]), (2, [.c (.box 1 0)]), (3, [.c (.box 2 0)]), (12, [.c (.pv (.int .i64 (min (max a0.N 0) 6)))]), (13, [.c (.pv (.int .i64 x2.1))])] (by kernel_rfl) ?_
      refine ops_nil ?_
      refine then_ ?_
      refine drawn_ mixed ?_
      refine dl (t := 16) 0 [.c (.box 2 1)] rfl ?_
      refine dl (t := 17) 1 [.c (.row 3)] rfl ?_
      refine dl (t := 18) 2 [.agg (bs (e_zone_Zone a0))] rfl ?_
      refine dl (t := 19) 3 [.c (.pv (.int .i64 x2.1))] rfl ?_
      obtain ⟨v2, k3, h⟩ := bindE h
      refine dl (t := 20) 4 [.agg [.pv (.int .i64 v2.Lo), .pv (.int .i64 v2.Hi)]] rfl ?_
      refine dl (t := 21) 5 [.c (.pv (.sl (List.map e_itv_Itv [v2])))] rfl ?_
      obtain ⟨v3, k4, h⟩ := bindE h
      refine d_append (env1 := [(4, [.c (.pv (.int .i64 x2.1))]), (1, [.c (.box 0 0)]), (2, [.c (.box 1 0)]), (3, [.c (.box 2 0)]), (12, [.c (.pv (.int .i64 (min (max a0.N 0) 6)))]), (13, [.c (.pv (.int .i64 x2.1))])]) (T1 := [⟨5, some 21, [.c (.pv (.sl (List.map e_itv_Itv [v2])))], .light⟩, ⟨4, some 20, [.agg [.pv (.int .i64 v2.Lo), .pv (.int .i64 v2.Hi)]], .light⟩, ⟨3, some 19, [.c (.pv (.int .i64 x2.1))], .light⟩, ⟨2, some 18, [.agg (bs (e_zone_Zone a0))], .light⟩, ⟨1, some 17, [.c (.any)], .light⟩, ⟨0, some 16, [.c (.box 2 1)], .light⟩]) (st' := [some (.box true 62 (bs (e_zone_Zone a0))), some (.box true 64 ([.pv (.bool false), .emp, .pv (.int .i64 0), .pv (.bool false)] ++ bs (e_T60 (arr (arr 0 []) [(arr 0 [0, 0, 0, 0, 0, 0, 0]), (arr 0 [0, 0, 0, 0, 0, 0, 0]), (arr 0 [0, 0, 0, 0, 0, 0, 0]), (arr 0 [0, 0, 0, 0, 0, 0, 0]), (arr 0 [0, 0, 0, 0, 0, 0, 0]), (arr 0 [0, 0, 0, 0, 0, 0, 0]), (arr 0 [0, 0, 0, 0, 0, 0, 0])])))), some (.box true 64 ([.pv (.bool x2.2.1.None), .any, .pv (.int .i64 x2.2.1.Z.N), .pv (.bool x2.2.1.Z.None)] ++ bs (e_T60 x2.2.1.Z.D))), some (.row true true 72 2 (List.map e_itv_Itv v3))]) (wm [0, 1, 0, 0, 12, 28, 63, 127, 255]) 6 rfl (by kernel_rfl) (by kernel_rfl) (by kernel_rfl) (by kernel_rfl) (by kernel_rfl) (gi0 rfl) (oL [] rfl (by kernel_rfl) (fl_slice (List.map e_itv_Itv [v2]) rfl sl58 rfl rfl rfl rfl rfl rfl rfl) (oL [] rfl (by kernel_rfl) (fl_call rfl Tryz.call92 rfl (by kernel_rfl) (by kernel_rfl) (zone_Itv_meets k3)) (oE tbok [] 4 (by kernel_rfl) trivial))) rfl rfl rfl u58 te72 (by decide) rfl rfl rfl (.sl _) (ys := List.map e_itv_Itv [v2]) rfl (app_len k4) rfl rfl (app_set (e := e_itv_Itv) k4 (by rfl)) ?_
      refine dl (t := 23) 7 [.c (.box 2 1)] rfl ?_
      obtain ⟨v4, k5, h⟩ := bindE h
      refine d_store (cs' := ([.pv (.bool v4.None), .row 3, .pv (.int .i64 v4.Z.N), .pv (.bool v4.Z.None)] ++ bs (e_T60 v4.Z.D))) (wm [0, 1, 0, 0, 12, 28, 63, 127, 255]) 8 rfl (by kernel_rfl) (by kernel_rfl) (by kernel_rfl) (by kernel_rfl) (by kernel_rfl) (gi0 rfl) (oE tbok [] 1 (by kernel_rfl) (oN 7 (by kernel_rfl) trivial)) rfl rfl ty58 rfl rfl rfl rfl rfl rfl (by rw [← retE k5]; kernel_rfl) (SetAt.eq (.s (.s .z))) ?_
      refine d_endS (env2 := [(1, [.c (.box 0 0)]), (2, [.c (.box 1 0)]), (3, [.c (.box 2 0)]), (12, [.c (.pv (.int .i64 (min (max a0.N 0) 6)))]), (13, [.c (.pv (.int .i64 x2.1))])]) (wm [0, 1, 0, 0, 12, 28, 63, 127, 255]) (by kernel_rfl) (by kernel_rfl) (by kernel_rfl) (oN 9 (by kernel_rfl) trivial) (sub_cons rfl (sub_cons rfl (sub_cons rfl (sub_cons rfl (sub_cons rfl sub_nil))))) (wB wT) ?_
      refine bN ?_
      refine then_ ?_
      refine region_ ?_
      refine R tbok 2 [13, 1, 2, 3, 12] [(13, [.c (.pv (.int .i64 (IntKind.i64.wrap (x2.1 + 1))))]), (1, [.c (.box 0 0)]), (2, [.c (.box 1 0)]), (3, [.c (.box 2 0)]), (12, [.c (.pv (.int .i64 (min (max a0.N 0) 6)))])] (by kernel_rfl) ?_
      refine ops_nil ?_
      obtain rfl := retE h
      refine lN ?_
      refine w_sub (env' := [(1, [.c (.box 0 0)]), (2, [.c (.box 1 0)]), (3, [.c (.box 2 0)]), (12, [.c (.pv (.int .i64 (min (max a0.N 0) 6)))]), (13, [.c (.pv (.int .i64 (IntKind.i64.wrap (x2.1 + 1))))])]) (sub_cons rfl (sub_cons rfl (sub_cons rfl (sub_cons rfl (sub_cons rfl sub_nil))))) ?_
      exact wkE (by kernel_rfl) (by kernel_rfl)
    · have h := iteF h k1
      refine exit_ ?_
      refine tX ?_
      obtain rfl := retE h
      refine lX ?_
      refine w_sub (env' := [(2, [.c (.box 1 0)]), (3, [.c (.box 2 0)])]) (sub_cons rfl (sub_cons rfl sub_nil)) ?_
      refine w_none 0 .z ?_
      exact wkE (by kernel_rfl) (by kernel_rfl)
  · cases h
  · have h := elimR h
    refine then_ ?_
    refine seq_ ?_
    refine region_ ?_
    refine R tbok 1 [25, 2] [(25, [.agg ([.pv (.bool j2.1.None), .row 3, .pv (.int .i64 j2.1.Z.N), .pv (.bool j2.1.Z.None)] ++ bs (e_T60 j2.1.Z.D))]), (2, [.c (.box 1 0)])] (by kernel_rfl) ?_
    refine S rfl rfl rfl ty64 (by decide) rfl rfl rfl rfl rfl (.all rfl) (.s .z) ?_
    refine ops_nil ?_
    refine then_ ?_
    refine ret_ ?_
    obtain rfl := retE h
    refine rwr (rw_ (.cellA (ys := ([.pv (.bool j2.1.None), .row 3, .pv (.int .i64 j2.1.Z.N), .pv (.bool j2.1.Z.None)] ++ bs (e_T60 j2.1.Z.D))) ty64 rfl rfl (by kernel_rfl) (by kernel_rfl) .nil) ?_)
    refine (w_freeze (b := 3) (env' := [(0, [.agg (bs (e_num_Num (num_Num.mk j2.1.None j2.2 j2.1.Z)))])]) (st' := [none, some (.box true 64 (bs (e_num_Num (num_Num.mk j2.1.None j2.2 j2.1.Z)))), some (.box true 64 (bs (e_num_Num (num_Num.mk j2.1.None j2.2 j2.1.Z)))), none]) rfl rfl rfl ?_)
    refine w_none 1 (.s .z) ?_
    refine w_none 2 (.s (.s .z)) ?_
    refine w_cut 0 rfl rfl rfl rfl ?_
    exact wkE (by kernel_rfl) (by kernel_rfl)

theorem num_Zeros_meets {a0 : Int} {r : num_Num} (h : num_Zeros a0 = some r) : MeetsV Tryz.prog GG 46 [.c (.pv (.int .i64 a0))] [.agg (bs (e_num_Num r))] := by
  refine MeetsS.toV (meetsW_of (st0 := []) (N := 6) r_num_Zeros o_num_Zeros r Tryz.func46 rfl rfl rfl (by dsimp only [argEnv]) rfl ?_) rfl
  unfold num_Zeros at h
  refine seq_ ?_
  refine region_ ?_
  refine B rfl rfl (bir_alloc rfl z64 rfl rfl) rfl rfl .z ?_
  refine ops_nil ?_
  refine then_ ?_
  refine seq_ ?_
  refine region_ ?_
  refine R tbok 1 [3, 2] [(3, [.c (.pv (.int .i64 a0))]), (2, [.c (.box 0 0)])] (by kernel_rfl) ?_
  obtain ⟨v1, k1, h⟩ := bindE h
  refine C rfl rfl (fl_call rfl Tryz.call91 rfl (by kernel_rfl) (by kernel_rfl) (zone_Zeros_meets k1)) rfl ?_
  obtain ⟨v2, k2, h⟩ := bindE h
  refine C rfl rfl (fl_call rfl Tryz.call49 rfl (by kernel_rfl) (by kernel_rfl) (num_of_meets k2)) rfl ?_
  refine S rfl rfl rfl ty64 (by decide) rfl rfl rfl rfl rfl (.all rfl) .z ?_
  refine ops_nil ?_
  refine then_ ?_
  refine ret_ ?_
  obtain rfl := retE h
  refine rwr (rw_ (.cellA (ys := (bs (e_num_Num v2))) ty64 rfl rfl (by kernel_rfl) (by kernel_rfl) .nil) ?_)
  refine w_none 0 .z ?_
  refine w_cut 0 rfl rfl rfl rfl ?_
  exact wkE (by kernel_rfl) (by kernel_rfl)

theorem itv_Const_meets {a0 : Int} {r : itv_Itv} (h : itv_Const a0 = some r) : MeetsV Tryz.prog GG 41 [.c (.pv (.int .i64 a0))] [.agg [.pv (.int .i64 r.Lo), .pv (.int .i64 r.Hi)]] := by
  refine MeetsS.toV (meetsW_of (st0 := []) (N := 6) r_itv_Const o_itv_Const r Tryz.func41 rfl rfl rfl (by dsimp only [argEnv]) rfl ?_) rfl
  unfold itv_Const at h
  refine seq_ ?_
  refine region_ ?_
  refine B rfl rfl (bir_alloc rfl z72 rfl rfl) rfl rfl .z ?_
  refine ops_nil ?_
  refine then_ ?_
  refine seq_ ?_
  refine region_ ?_
  refine R tbok 2 [4, 3, 2] [(4, [.c (.pv (.int .i64 a0))]), (3, [.c (.pv (.int .i64 a0))]), (2, [.c (.box 0 0)])] (by kernel_rfl) ?_
  obtain ⟨v1, k1, h⟩ := bindE h
  refine C rfl rfl (fl_call rfl Tryz.call62 rfl (by kernel_rfl) (by kernel_rfl) (itv_Of_meets k1)) rfl ?_
  refine S rfl rfl rfl ty72 (by decide) rfl rfl rfl rfl rfl (.all rfl) .z ?_
  refine ops_nil ?_
  refine then_ ?_
  refine ret_ ?_
  obtain rfl := retE h
  refine rwr (rw_ (.cellA (ys := [.pv (.int .i64 v1.Lo), .pv (.int .i64 v1.Hi)]) ty72 rfl rfl (by kernel_rfl) (by kernel_rfl) .nil) ?_)
  refine w_none 0 .z ?_
  refine w_cut 0 rfl rfl rfl rfl ?_
  exact wkE (by kernel_rfl) (by kernel_rfl)

theorem rule_Start_meets {r : Int} (h : rule_Start = some r) : MeetsV Tryz.prog GG 48 [] [.c (.pv (.int .u8 r))] := by
  refine MeetsS.toV (meetsW_of (st0 := []) (N := 1) r_rule_Start o_rule_Start r Tryz.func48 rfl rfl rfl (by dsimp only [argEnv]) rfl ?_) rfl
  unfold rule_Start at h
  refine seq_ ?_
  refine region_ ?_
  refine R tbok 1 [0] [(0, [.c (.pv (.int .u8 0))])] (by kernel_rfl) ?_
  refine ops_nil ?_
  refine then_ ?_
  refine seq_ ?_
  refine region_ ?_
  refine R tbok 1 [0] [(0, [.c (.pv (.int .u8 1))])] (by kernel_rfl) ?_
  refine ops_nil ?_
  refine then_ ?_
  refine ret_ ?_
  obtain rfl := retE h
  refine rwr (rw_ (.tmp rfl .nil) ?_)
  exact wkE (by kernel_rfl) (by kernel_rfl)

theorem trans_Start_meets {a0 : flow_Sys} {a1 : Int} {r : trans_State} (h : trans_Start a0 a1 = some r) : MeetsV Tryz.prog GG 14 [.agg [.pv (.sl (List.map e_check_Chan a0.Chans)), .pv (.sl (List.map e_flow_Graph a0.Graphs)), .pv (.sl (List.map e_i64 a0.Vars))], .c (.pv (.int .i64 a1))] [.agg (bs (e_trans_State r))] := by
  refine MeetsS.toV (meetsW_of (st0 := []) (N := 30) r_trans_Start o_trans_Start r Tryz.func14 rfl rfl rfl (by dsimp only [argEnv]) rfl ?_) rfl
  unfold trans_Start at h
  refine seq_ ?_
  refine region_ ?_
  refine B rfl rfl (bir_box rfl rfl rfl) rfl rfl .z ?_
  refine B rfl rfl (bir_alloc rfl z67 rfl rfl) rfl rfl (.s .z) ?_
  refine ops_nil ?_
  refine then_ ?_
  refine seq_ ?_
  refine region_ ?_
  refine R tbok 2 [7, 6, 4, 2] [(7, [.c (.pv (.int .i64 a1))]), (6, [.agg [.pv (.sl (List.map e_check_Chan a0.Chans)), .pv (.sl (List.map e_flow_Graph a0.Graphs)), .pv (.sl (List.map e_i64 a0.Vars))]]), (4, [.c (.box 1 0)]), (2, [.c (.box 0 0)])] (by kernel_rfl) ?_
  obtain ⟨v1, k1, h⟩ := bindE h
  refine C rfl rfl (fl_call rfl Tryz.call47 rfl (by kernel_rfl) (by kernel_rfl) (trans_vars_meets k1)) rfl ?_
  obtain ⟨v2, k2, h⟩ := bindE h
  refine C rfl rfl (fl_call rfl Tryz.call46 rfl (by kernel_rfl) (by kernel_rfl) (num_Zeros_meets k2)) rfl ?_
  refine L rfl rfl (lt_build (cs := ([.pv (.bool v2.None), .pv (.sl (List.map e_itv_Itv v2.I)), .pv (.int .i64 v2.Z.N), .pv (.bool v2.Z.None)] ++ (bs (e_T60 v2.Z.D) ++ [.emp, .emp]))) rfl st67 rfl (by kernel_rfl)) rfl ?_
  refine B rfl rfl (bir_alloc rfl z67 rfl rfl) rfl rfl (.s (.s .z)) ?_
  refine S rfl rfl rfl ty67 (by decide) rfl rfl rfl rfl rfl (.all rfl) (.s (.s .z)) ?_
  refine ops_nil ?_
  refine then_ ?_
  refine seq_ ?_
  refine seq_ ?_
  refine region_ ?_
  refine R tbok 2 [12, 5, 4] [(12, [.c (.pv (.sl (List.map e_check_Chan a0.Chans)))]), (5, [.c (.box 2 0)]), (4, [.c (.box 1 0)])] (by kernel_rfl) ?_
  refine L rfl rfl (len_sl (e := e_check_Chan) rfl u37 rfl) rfl ?_
  refine R tbok 1 [14, 13, 5, 4] [(14, [.c (.pv (.int .i64 0))]), (13, [.c (.pv (.int .i64 (a0.Chans.length : Int)))]), (5, [.c (.box 2 0)]), (4, [.c (.box 1 0)])] (by kernel_rfl) ?_
  refine ops_nil ?_
  refine then_ ?_
  refine CodeT.weak (w_liftC 2 53 72 2 rfl rfl (.s (.s (.s (.s (.s (.s (.s (.s (.s (.s (.s (.s (.s (.s (.s (.s (.s (.s (.s (.s (.s (.s (.s (.s (.s (.s (.s (.s (.s (.s (.s (.s (.s (.s (.s (.s (.s (.s (.s (.s (.s (.s (.s (.s (.s (.s (.s (.s (.s (.s (.s (.s (.s .z))))))))))))))))))))))))))))))))))))))))))))))))))))) (.s (.s .z)) (.s (.s (.s .z))) (Weak.refl _)) ?_
  refine CodeT.weak (w_liftC 2 54 161 1 rfl rfl (.s (.s (.s (.s (.s (.s (.s (.s (.s (.s (.s (.s (.s (.s (.s (.s (.s (.s (.s (.s (.s (.s (.s (.s (.s (.s (.s (.s (.s (.s (.s (.s (.s (.s (.s (.s (.s (.s (.s (.s (.s (.s (.s (.s (.s (.s (.s (.s (.s (.s (.s (.s (.s (.s .z)))))))))))))))))))))))))))))))))))))))))))))))))))))) (.s (.s .z)) (.s (.s (.s (.s .z)))) (Weak.refl _)) ?_
  refine lp_ (Qr := RW Tryz.prog GG Tryz.f14 0 r_trans_Start o_trans_Start) (trans_Start_l3 a0) (fun (x3 : (Int × trans_State × (List itv_Itv) × (List Int))) => (⟨30, 0, [(4, [.c (.box 1 0)]), (5, [.c (.box 2 0)]), (13, [.c (.pv (.int .i64 (a0.Chans.length : Int)))]), (14, [.c (.pv (.int .i64 x3.1))])], [none, some (.box true 67 ([.pv (.bool false), .emp, .pv (.int .i64 0), .pv (.bool false)] ++ (bs (e_T60 (arr (arr 0 []) [(arr 0 [0, 0, 0, 0, 0, 0, 0]), (arr 0 [0, 0, 0, 0, 0, 0, 0]), (arr 0 [0, 0, 0, 0, 0, 0, 0]), (arr 0 [0, 0, 0, 0, 0, 0, 0]), (arr 0 [0, 0, 0, 0, 0, 0, 0]), (arr 0 [0, 0, 0, 0, 0, 0, 0]), (arr 0 [0, 0, 0, 0, 0, 0, 0])])) ++ [.emp, .emp]))), some (.box true 67 ([.pv (.bool x3.2.1.N.None), .pv (.sl (List.map e_itv_Itv x3.2.1.N.I)), .pv (.int .i64 x3.2.1.N.Z.N), .pv (.bool x3.2.1.N.Z.None)] ++ (bs (e_T60 x3.2.1.N.Z.D) ++ [.row 3, .row 4]))), some (.row true true 72 2 (List.map e_itv_Itv x3.2.2.1)), some (.row true true 161 1 (List.map e_rule_Set x3.2.2.2))]⟩ : Sx)) (fun (j3 : (trans_State × (List itv_Itv) × (List Int))) => (⟨30, 0, [(4, [.c (.box 1 0)]), (5, [.c (.box 2 0)])], [none, some (.box true 67 ([.pv (.bool false), .emp, .pv (.int .i64 0), .pv (.bool false)] ++ (bs (e_T60 (arr (arr 0 []) [(arr 0 [0, 0, 0, 0, 0, 0, 0]), (arr 0 [0, 0, 0, 0, 0, 0, 0]), (arr 0 [0, 0, 0, 0, 0, 0, 0]), (arr 0 [0, 0, 0, 0, 0, 0, 0]), (arr 0 [0, 0, 0, 0, 0, 0, 0]), (arr 0 [0, 0, 0, 0, 0, 0, 0]), (arr 0 [0, 0, 0, 0, 0, 0, 0])])) ++ [.emp, .emp]))), some (.box true 67 ([.pv (.bool j3.1.N.None), .pv (.sl (List.map e_itv_Itv j3.1.N.I)), .pv (.int .i64 j3.1.N.Z.N), .pv (.bool j3.1.N.Z.None)] ++ (bs (e_T60 j3.1.N.Z.D) ++ [.row 3, .row 4]))), some (.row true true 72 2 (List.map e_itv_Itv j3.2.1)), some (.row true true 161 1 (List.map e_rule_Set j3.2.2))]⟩ : Sx)) (0, (trans_State.mk v2 [] []), [], []) RW.only h wT ?_ (fun x3 o h => ?_) (fun r h s' hs => ?_) (fun j3 h => ?_)
  · refine w_sub (env' := [(4, [.c (.box 1 0)]), (5, [.c (.box 2 0)]), (13, [.c (.pv (.int .i64 (a0.Chans.length : Int)))]), (14, [.c (.pv (.int .i64 0))])]) (sub_cons rfl (sub_cons rfl (sub_cons rfl (sub_cons rfl sub_nil)))) ?_
    refine w_none 0 .z ?_
    refine w_ch 3 rfl (.s (.s (.s .z))) ?_
    refine w_ch 4 rfl (.s (.s (.s (.s .z)))) ?_
    exact wkE (by kernel_rfl) (by kernel_rfl)
  · unfold trans_Start_l3 at h
    refine seq_ ?_
    refine region_ ?_
    refine R tbok 1 [15, 4, 5, 13, 14] [(15, [.c (.pv (.bool (decide (x3.1 < (a0.Chans.length : Int)))))]), (4, [.c (.box 1 0)]), (5, [.c (.box 2 0)]), (13, [.c (.pv (.int .i64 (a0.Chans.length : Int)))]), (14, [.c (.pv (.int .i64 x3.1))])] (by kernel_rfl) ?_
    refine ops_nil ?_
    refine then_ ?_
    refine seq_ ?_
    refine cond_ (b := (decide (x3.1 < (a0.Chans.length : Int)))) rfl (fun k3 => ?_) (fun k3 => ?_)
    · have h := iteT h k3
      refine skip_ ?_
      refine then_ ?_
      refine seq_ ?_
      refine block_ ?_
      refine drawn_ mixed ?_
      refine dl (t := 16) 0 [.c (.box 2 53)] rfl ?_
      refine dl (t := 17) 1 [.c (.row 3)] rfl ?_
      obtain ⟨v4, k5, h⟩ := bindE h
      refine dl (t := 18) 2 [.agg [.pv (.int .i64 v4.Lo), .pv (.int .i64 v4.Hi)]] rfl ?_
      refine dl (t := 19) 3 [.c (.pv (.sl (List.map e_itv_Itv [v4])))] rfl ?_
      refine dl (t := 21) 5 [.c (.box 2 54)] rfl ?_
      refine dl (t := 22) 6 [.c (.row 4)] rfl ?_
      obtain ⟨v5, k6, h⟩ := bindE h
      refine d_append (env1 := [(15, [.c (.pv (.bool (decide (x3.1 < (a0.Chans.length : Int)))))]), (4, [.c (.box 1 0)]), (5, [.c (.box 2 0)]), (13, [.c (.pv (.int .i64 (a0.Chans.length : Int)))]), (14, [.c (.pv (.int .i64 x3.1))])]) (T1 := [⟨6, some 22, [.c (.row 4)], .light⟩, ⟨5, some 21, [.c (.box 2 54)], .light⟩, ⟨3, some 19, [.c (.pv (.sl (List.map e_itv_Itv [v4])))], .light⟩, ⟨2, some 18, [.agg [.pv (.int .i64 v4.Lo), .pv (.int .i64 v4.Hi)]], .light⟩, ⟨1, some 17, [.c (.any)], .light⟩, ⟨0, some 16, [.c (.box 2 53)], .light⟩]) (st' := [none, some (.box true 67 ([.pv (.bool false), .emp, .pv (.int .i64 0), .pv (.bool false)] ++ (bs (e_T60 (arr (arr 0 []) [(arr 0 [0, 0, 0, 0, 0, 0, 0]), (arr 0 [0, 0, 0, 0, 0, 0, 0]), (arr 0 [0, 0, 0, 0, 0, 0, 0]), (arr 0 [0, 0, 0, 0, 0, 0, 0]), (arr 0 [0, 0, 0, 0, 0, 0, 0]), (arr 0 [0, 0, 0, 0, 0, 0, 0]), (arr 0 [0, 0, 0, 0, 0, 0, 0])])) ++ [.emp, .emp]))), some (.box true 67 ([.pv (.bool x3.2.1.N.None), .pv (.sl (List.map e_itv_Itv x3.2.1.N.I)), .pv (.int .i64 x3.2.1.N.Z.N), .pv (.bool x3.2.1.N.Z.None)] ++ (bs (e_T60 x3.2.1.N.Z.D) ++ [.any, .row 4]))), some (.row true true 72 2 (List.map e_itv_Itv v5)), some (.row true true 161 1 (List.map e_rule_Set x3.2.2.2))]) (wm [0, 1, 0, 4, 15, 0, 32, 31, 159, 511, 127, 2047, 4095, 8191]) 4 rfl (by kernel_rfl) (by kernel_rfl) (by kernel_rfl) (by kernel_rfl) (by kernel_rfl) (gi0 rfl) (oE tbok [] 2 (by kernel_rfl) (oL [] rfl (by kernel_rfl) (fl_slice (List.map e_itv_Itv [v4]) rfl sl58 rfl rfl rfl rfl rfl rfl rfl) (oL [] rfl (by kernel_rfl) (fl_call rfl Tryz.call41 rfl (by kernel_rfl) (by kernel_rfl) (itv_Const_meets k5)) (oE tbok [] 2 (by kernel_rfl) trivial)))) rfl rfl rfl u58 te72 (by decide) rfl rfl rfl (.sl _) (ys := List.map e_itv_Itv [v4]) rfl (app_len k6) rfl rfl (app_set (e := e_itv_Itv) k6 (by rfl)) ?_
      obtain ⟨v7, k8, h⟩ := bindE h
      refine dl (t := 23) 7 [.c (.pv (.int .u8 v7))] rfl ?_
      refine dl (t := 24) 8 [.c (.pv (.sl (List.map e_rule_Set [v7])))] rfl ?_
      refine dl (t := 26) 10 [.c (.box 2 53)] rfl ?_
      obtain ⟨v8, k9, h⟩ := bindE h
      refine d_append (env1 := [(15, [.c (.pv (.bool (decide (x3.1 < (a0.Chans.length : Int)))))]), (4, [.c (.box 1 0)]), (5, [.c (.box 2 0)]), (13, [.c (.pv (.int .i64 (a0.Chans.length : Int)))]), (14, [.c (.pv (.int .i64 x3.1))])]) (T1 := [⟨10, some 26, [.c (.box 2 53)], .light⟩, ⟨8, some 24, [.c (.pv (.sl (List.map e_rule_Set [v7])))], .light⟩, ⟨7, some 23, [.c (.pv (.int .u8 v7))], .light⟩, ⟨4, some 20, [.c (.row 3)], .heavy⟩, ⟨6, some 22, [.c (.any)], .light⟩, ⟨5, some 21, [.c (.box 2 54)], .light⟩, ⟨3, some 19, [.c (.pv (.sl (List.map e_itv_Itv [v4])))], .light⟩, ⟨2, some 18, [.agg [.pv (.int .i64 v4.Lo), .pv (.int .i64 v4.Hi)]], .light⟩, ⟨1, some 17, [.c (.any)], .light⟩, ⟨0, some 16, [.c (.box 2 53)], .light⟩]) (st' := [none, some (.box true 67 ([.pv (.bool false), .emp, .pv (.int .i64 0), .pv (.bool false)] ++ (bs (e_T60 (arr (arr 0 []) [(arr 0 [0, 0, 0, 0, 0, 0, 0]), (arr 0 [0, 0, 0, 0, 0, 0, 0]), (arr 0 [0, 0, 0, 0, 0, 0, 0]), (arr 0 [0, 0, 0, 0, 0, 0, 0]), (arr 0 [0, 0, 0, 0, 0, 0, 0]), (arr 0 [0, 0, 0, 0, 0, 0, 0]), (arr 0 [0, 0, 0, 0, 0, 0, 0])])) ++ [.emp, .emp]))), some (.box true 67 ([.pv (.bool x3.2.1.N.None), .pv (.sl (List.map e_itv_Itv x3.2.1.N.I)), .pv (.int .i64 x3.2.1.N.Z.N), .pv (.bool x3.2.1.N.Z.None)] ++ (bs (e_T60 x3.2.1.N.Z.D) ++ [.any, .any]))), some (.row true true 72 2 (List.map e_itv_Itv v5)), some (.row true true 161 1 (List.map e_rule_Set v8))]) (wm [0, 1, 0, 4, 15, 0, 32, 31, 159, 511, 127, 2047, 4095, 8191]) 9 rfl (by kernel_rfl) (by kernel_rfl) (by kernel_rfl) (by kernel_rfl) (by kernel_rfl) (gi0 rfl) (oE tbok [] 1 (by kernel_rfl) (oL [] rfl (by kernel_rfl) (fl_slice (List.map e_rule_Set [v7]) rfl sl65 rfl rfl rfl rfl rfl rfl rfl) (oL [] rfl (by kernel_rfl) (fl_call rfl Tryz.call48 rfl (by kernel_rfl) (by kernel_rfl) (rule_Start_meets k8)) (oN 1 (by kernel_rfl) (oE tbok [] 2 (by kernel_rfl) (oN 4 (by kernel_rfl) trivial)))))) rfl rfl rfl u65 te161 (by decide) rfl rfl rfl (.sl _) (ys := List.map e_rule_Set [v7]) rfl (app_len k9) rfl rfl (app_set (e := e_rule_Set) k9 (by rfl)) ?_
      refine d_store (cs' := ([.pv (.bool x3.2.1.N.None), .pv (.sl (List.map e_itv_Itv x3.2.1.N.I)), .pv (.int .i64 x3.2.1.N.Z.N), .pv (.bool x3.2.1.N.Z.None)] ++ (bs (e_T60 x3.2.1.N.Z.D) ++ [.row 3, .any]))) (wm [0, 1, 0, 4, 15, 0, 32, 31, 159, 511, 127, 2047, 4095, 8191]) 11 rfl (by kernel_rfl) (by kernel_rfl) (by kernel_rfl) (by kernel_rfl) (by kernel_rfl) (gi0 rfl) (oN 1 (by kernel_rfl) (oE tbok [] 1 (by kernel_rfl) (oN 9 (by kernel_rfl) trivial))) rfl rfl ty58 rfl rfl rfl rfl rfl rfl (by kernel_rfl) (SetAt.eq (.s (.s .z))) ?_
      refine dl (t := 27) 12 [.c (.box 2 54)] rfl ?_
      obtain ⟨v9, k10, h⟩ := bindE h
      refine d_store (cs' := ([.pv (.bool v9.N.None), .pv (.sl (List.map e_itv_Itv v9.N.I)), .pv (.int .i64 v9.N.Z.N), .pv (.bool v9.N.Z.None)] ++ (bs (e_T60 v9.N.Z.D) ++ [.row 3, .row 4]))) (wm [0, 1, 0, 4, 15, 0, 32, 31, 159, 511, 127, 2047, 4095, 8191]) 13 rfl (by kernel_rfl) (by kernel_rfl) (by kernel_rfl) (by kernel_rfl) (by kernel_rfl) (gi0 rfl) (oE tbok [] 1 (by kernel_rfl) (oN 12 (by kernel_rfl) trivial)) rfl rfl ty65 rfl rfl rfl rfl rfl rfl (by rw [← retE k10]; kernel_rfl) (SetAt.eq (.s (.s .z))) ?_
      refine d_endS (env2 := [(4, [.c (.box 1 0)]), (5, [.c (.box 2 0)]), (13, [.c (.pv (.int .i64 (a0.Chans.length : Int)))]), (14, [.c (.pv (.int .i64 x3.1))])]) (wm [0, 1, 0, 4, 15, 0, 32, 31, 159, 511, 127, 2047, 4095, 8191]) (by kernel_rfl) (by kernel_rfl) (by kernel_rfl) (oN 14 (by kernel_rfl) trivial) (sub_cons rfl (sub_cons rfl (sub_cons rfl (sub_cons rfl sub_nil)))) (wB wT) ?_
      refine bN ?_
      refine then_ ?_
      refine region_ ?_
      refine R tbok 2 [14, 4, 5, 13] [(14, [.c (.pv (.int .i64 (IntKind.i64.wrap (x3.1 + 1))))]), (4, [.c (.box 1 0)]), (5, [.c (.box 2 0)]), (13, [.c (.pv (.int .i64 (a0.Chans.length : Int)))])] (by kernel_rfl) ?_
      refine ops_nil ?_
      obtain rfl := retE h
      refine lN ?_
      refine w_sub (env' := [(4, [.c (.box 1 0)]), (5, [.c (.box 2 0)]), (13, [.c (.pv (.int .i64 (a0.Chans.length : Int)))]), (14, [.c (.pv (.int .i64 (IntKind.i64.wrap (x3.1 + 1))))])]) (sub_cons rfl (sub_cons rfl (sub_cons rfl (sub_cons rfl sub_nil)))) ?_
      exact wkE (by kernel_rfl) (by kernel_rfl)
    · have h := iteF h k3
      refine exit_ ?_
      refine tX ?_
      obtain rfl := retE h
      refine lX ?_
      refine w_sub (env' := [(4, [.c (.box 1 0)]), (5, [.c (.box 2 0)])]) (sub_cons rfl (sub_cons rfl sub_nil)) ?_
      exact wkE (by kernel_rfl) (by kernel_rfl)
  · cases h
  · have h := elimR h
    refine then_ ?_
    refine seq_ ?_
    refine region_ ?_
    refine R tbok 1 [29, 4] [(29, [.agg ([.pv (.bool j3.1.N.None), .pv (.sl (List.map e_itv_Itv j3.1.N.I)), .pv (.int .i64 j3.1.N.Z.N), .pv (.bool j3.1.N.Z.None)] ++ (bs (e_T60 j3.1.N.Z.D) ++ [.row 3, .row 4]))]), (4, [.c (.box 1 0)])] (by kernel_rfl) ?_
    refine S rfl rfl rfl ty67 (by decide) rfl rfl rfl rfl rfl (.all rfl) (.s .z) ?_
    refine ops_nil ?_
    refine then_ ?_
    refine ret_ ?_
    obtain rfl := retE h
    refine rwr (rw_ (.cellA (ys := ([.pv (.bool j3.1.N.None), .pv (.sl (List.map e_itv_Itv j3.1.N.I)), .pv (.int .i64 j3.1.N.Z.N), .pv (.bool j3.1.N.Z.None)] ++ (bs (e_T60 j3.1.N.Z.D) ++ [.row 3, .row 4]))) ty67 rfl rfl (by kernel_rfl) (by kernel_rfl) .nil) ?_)
    refine (w_freeze (b := 3) (env' := [(0, [.agg ([.pv (.bool j3.1.N.None), .pv (.sl (List.map e_itv_Itv j3.1.N.I)), .pv (.int .i64 j3.1.N.Z.N), .pv (.bool j3.1.N.Z.None)] ++ (bs (e_T60 j3.1.N.Z.D) ++ [.pv (.sl (List.map e_itv_Itv j3.2.1)), .row 4]))])]) (st' := [none, some (.box true 67 ([.pv (.bool j3.1.N.None), .pv (.sl (List.map e_itv_Itv j3.1.N.I)), .pv (.int .i64 j3.1.N.Z.N), .pv (.bool j3.1.N.Z.None)] ++ (bs (e_T60 j3.1.N.Z.D) ++ [.pv (.sl (List.map e_itv_Itv j3.2.1)), .row 4]))), some (.box true 67 ([.pv (.bool j3.1.N.None), .pv (.sl (List.map e_itv_Itv j3.1.N.I)), .pv (.int .i64 j3.1.N.Z.N), .pv (.bool j3.1.N.Z.None)] ++ (bs (e_T60 j3.1.N.Z.D) ++ [.pv (.sl (List.map e_itv_Itv j3.2.1)), .row 4]))), none, some (.row true true 161 1 (List.map e_rule_Set j3.2.2))]) rfl rfl rfl ?_)
    refine (w_freeze (b := 4) (env' := [(0, [.agg (bs (e_trans_State (trans_State.mk j3.1.N j3.2.1 j3.2.2)))])]) (st' := [none, some (.box true 67 (bs (e_trans_State (trans_State.mk j3.1.N j3.2.1 j3.2.2)))), some (.box true 67 (bs (e_trans_State (trans_State.mk j3.1.N j3.2.1 j3.2.2)))), none, none]) rfl rfl rfl ?_)
    refine w_none 1 (.s .z) ?_
    refine w_none 2 (.s (.s .z)) ?_
    refine w_cut 0 rfl rfl rfl rfl ?_
    exact wkE (by kernel_rfl) (by kernel_rfl)

theorem zone_Zone_forget_meets {a0 : zone_Zone} {a1 : Int} {r : zone_Zone} (h : zone_Zone_forget a0 a1 = some r) : MeetsS Tryz.prog GG 141 [.c (.box 0 0), .c (.pv (.int .i64 a1))] [some (.box true 62 (bs (e_zone_Zone a0)))] [] [some (.box true 62 (bs (e_zone_Zone r)))] := by
  refine meetsW_of (N := 30) r_zone_Zone_forget o_zone_Zone_forget r Tryz.func141 rfl rfl rfl (by dsimp only [argEnv]) rfl ?_
  unfold zone_Zone_forget at h
  refine seq_ ?_
  refine region_ ?_
  refine R tbok 1 [4, 0, 1] [(4, [.c (.pv (.int .i64 0))]), (0, [.c (.box 0 0)]), (1, [.c (.pv (.int .i64 a1))])] (by kernel_rfl) ?_
  refine ops_nil ?_
  refine then_ ?_
  refine lp_ (Qr := RW Tryz.prog GG Tryz.f141 1 r_zone_Zone_forget o_zone_Zone_forget) (zone_Zone_forget_l1 a1) (fun (x1 : (Int × zone_Zone)) => (⟨30, 1, [(0, [.c (.box 0 0)]), (1, [.c (.pv (.int .i64 a1))]), (4, [.c (.pv (.int .i64 x1.1))])], [some (.box true 62 (bs (e_zone_Zone x1.2)))]⟩ : Sx)) (fun (j1 : zone_Zone) => (⟨30, 1, [], [some (.box true 62 (bs (e_zone_Zone j1)))]⟩ : Sx)) (0, a0) RW.only h wW ?_ (fun x1 o h => ?_) (fun r h s' hs => ?_) (fun j1 h => ?_)
  · refine w_sub (env' := [(0, [.c (.box 0 0)]), (1, [.c (.pv (.int .i64 a1))]), (4, [.c (.pv (.int .i64 0))])]) (sub_cons rfl (sub_cons rfl (sub_cons rfl sub_nil))) ?_
    exact wkE (by kernel_rfl) (by kernel_rfl)
  · unfold zone_Zone_forget_l1 at h
    refine seq_ ?_
    refine seq_ ?_
    refine region_ ?_
    refine R tbok 6 [10, 0, 1, 4] [(10, [.c (.pv (.bool (decide (x1.1 ≤ x1.2.N))))]), (0, [.c (.box 0 0)]), (1, [.c (.pv (.int .i64 a1))]), (4, [.c (.pv (.int .i64 x1.1))])] (by kernel_rfl) ?_
    refine ops_nil ?_
    refine then_ ?_
    refine cond_ (b := (decide (x1.1 ≤ x1.2.N))) rfl (fun k1 => ?_) (fun k1 => ?_)
    · have h := iteT h k1
      refine skip_ ?_
      refine then_ ?_
      refine seq_ ?_
      refine jn_ (fun (j2 : zone_Zone) => (⟨30, 1, [(0, [.c (.box 0 0)]), (1, [.c (.pv (.int .i64 a1))]), (4, [.c (.pv (.int .i64 x1.1))])], [some (.box true 62 (bs (e_zone_Zone j2)))]⟩ : Sx)) h wT (fun o h => ?_) (fun j2 h => ?_)
      · refine block_ ?_
        refine seq_ ?_
        refine region_ ?_
        refine R tbok 3 [15, 0, 1, 4] [(15, [.c (.pv (.bool (x1.1 != a1)))]), (0, [.c (.box 0 0)]), (1, [.c (.pv (.int .i64 a1))]), (4, [.c (.pv (.int .i64 x1.1))])] (by kernel_rfl) ?_
        refine ops_nil ?_
        refine then_ ?_
        refine cond_ (b := (x1.1 != a1)) rfl (fun k2 => ?_) (fun k2 => ?_)
        · have h := iteT h k2
          refine drawn_ mixed ?_
          refine dl (t := 16) 0 [.c (.box 0 0)] rfl ?_
          refine dl (t := 17) 1 [.c (.pv (.int .i64 x1.1))] rfl ?_
          refine dl (t := 18) 2 [.c (.pv (.int .i64 a1))] rfl ?_
          refine dl (t := 19) 3 [.c (.box 0 0)] rfl ?_
          refine dl (t := 20) 4 [.c (.pv (.int .i64 a1))] rfl ?_
          refine dl (t := 21) 5 [.c (.pv (.int .i64 x1.1))] rfl ?_
          refine dl (t := 22) 6 [.c (.box 0 0)] rfl ?_
          refine dl (t := 23) 7 [.c (.box 0 2)] rfl ?_
          obtain ⟨v1, k3, h⟩ := bindE h
          refine dl (t := 24) 8 [.c (.box 0 (2 + v1 * 7))] rfl ?_
          obtain ⟨v2, k4, h⟩ := bindE h
          refine dl (t := 25) 9 [.c (.box 0 (2 + v1 * 7 + v2 * 1))] rfl ?_
          refine dl (t := 26) 11 [.c (.box 0 0)] rfl ?_
          refine dl (t := 27) 12 [.c (.box 0 2)] rfl ?_
          obtain ⟨v3, k5, h⟩ := bindE h
          refine dl (t := 28) 13 [.c (.box 0 (2 + v3 * 7))] rfl ?_
          obtain ⟨v4, k6, h⟩ := bindE h
          refine d_storeG (cs' := [.pv (.int .i64 x1.2.N), .pv (.bool x1.2.None), .pv (.int .i64 ((v4 0) 0)), .pv (.int .i64 ((v4 0) 1)), .pv (.int .i64 ((v4 0) 2)), .pv (.int .i64 ((v4 0) 3)), .pv (.int .i64 ((v4 0) 4)), .pv (.int .i64 ((v4 0) 5)), .pv (.int .i64 ((v4 0) 6)), .pv (.int .i64 ((v4 1) 0)), .pv (.int .i64 ((v4 1) 1)), .pv (.int .i64 ((v4 1) 2)), .pv (.int .i64 ((v4 1) 3)), .pv (.int .i64 ((v4 1) 4)), .pv (.int .i64 ((v4 1) 5)), .pv (.int .i64 ((v4 1) 6)), .pv (.int .i64 ((v4 2) 0)), .pv (.int .i64 ((v4 2) 1)), .pv (.int .i64 ((v4 2) 2)), .pv (.int .i64 ((v4 2) 3)), .pv (.int .i64 ((v4 2) 4)), .pv (.int .i64 ((v4 2) 5)), .pv (.int .i64 ((v4 2) 6)), .pv (.int .i64 ((v4 3) 0)), .pv (.int .i64 ((v4 3) 1)), .pv (.int .i64 ((v4 3) 2)), .pv (.int .i64 ((v4 3) 3)), .pv (.int .i64 ((v4 3) 4)), .pv (.int .i64 ((v4 3) 5)), .pv (.int .i64 ((v4 3) 6)), .pv (.int .i64 ((v4 4) 0)), .pv (.int .i64 ((v4 4) 1)), .pv (.int .i64 ((v4 4) 2)), .pv (.int .i64 ((v4 4) 3)), .pv (.int .i64 ((v4 4) 4)), .pv (.int .i64 ((v4 4) 5)), .pv (.int .i64 ((v4 4) 6)), .pv (.int .i64 ((v4 5) 0)), .pv (.int .i64 ((v4 5) 1)), .pv (.int .i64 ((v4 5) 2)), .pv (.int .i64 ((v4 5) 3)), .pv (.int .i64 ((v4 5) 4)), .pv (.int .i64 ((v4 5) 5)), .pv (.int .i64 ((v4 5) 6)), .pv (.int .i64 ((v4 6) 0)), .pv (.int .i64 ((v4 6) 1)), .pv (.int .i64 ((v4 6) 2)), .pv (.int .i64 ((v4 6) 3)), .pv (.int .i64 ((v4 6) 4)), .pv (.int .i64 ((v4 6) 5)), .pv (.int .i64 ((v4 6) 6))]) (wm [0, 0, 0, 0, 0, 0, 1, 65, 195, 455, 967, 8, 2056, 6168, 16383, 32767]) 10 rfl (by kernel_rfl) (by kernel_rfl) (by kernel_rfl) (by kernel_rfl) (by kernel_rfl) (gi0 rfl) (oL [] rfl (by kernel_rfl) (fl_lt (ia_boxD rfl u60 ty59 rfl rfl k5)) (oE tbok [] 2 (by kernel_rfl) (oL [] rfl (by kernel_rfl) (fl_lt (ia_boxD rfl u59 ty3 rfl rfl k4)) (oL [] rfl (by kernel_rfl) (fl_lt (ia_boxD rfl u60 ty59 rfl rfl k3)) (oE tbok [] 8 (by kernel_rfl) trivial))))) rfl rfl ty3 rfl rfl rfl rfl rfl (fit2 (e := (PV.int .i64)) (D2 := x1.2.D) (pre := [.int .i64 x1.2.N, .bool x1.2.None]) (post := []) (n1 := 7) (n2 := 7) (by kernel_rfl) (inA_lt k3) (inA_lt k4)) (put2 (e := (PV.int .i64)) (D2 := x1.2.D) (pre := [.int .i64 x1.2.N, .bool x1.2.None]) (post := []) (n1 := 7) (n2 := 7) (by kernel_rfl) (inA_lt k3) (inA_lt k4) (retE k6) (by kernel_rfl)) (SetAt.eq .z) ?_
          obtain ⟨v5, k7, h⟩ := bindE h
          refine dl (t := 29) 14 [.c (.box 0 (2 + v3 * 7 + v5 * 1))] rfl ?_
          obtain ⟨v6, k8, h⟩ := bindE h
          refine d_storeG (cs' := [.pv (.int .i64 x1.2.N), .pv (.bool x1.2.None), .pv (.int .i64 ((v6 0) 0)), .pv (.int .i64 ((v6 0) 1)), .pv (.int .i64 ((v6 0) 2)), .pv (.int .i64 ((v6 0) 3)), .pv (.int .i64 ((v6 0) 4)), .pv (.int .i64 ((v6 0) 5)), .pv (.int .i64 ((v6 0) 6)), .pv (.int .i64 ((v6 1) 0)), .pv (.int .i64 ((v6 1) 1)), .pv (.int .i64 ((v6 1) 2)), .pv (.int .i64 ((v6 1) 3)), .pv (.int .i64 ((v6 1) 4)), .pv (.int .i64 ((v6 1) 5)), .pv (.int .i64 ((v6 1) 6)), .pv (.int .i64 ((v6 2) 0)), .pv (.int .i64 ((v6 2) 1)), .pv (.int .i64 ((v6 2) 2)), .pv (.int .i64 ((v6 2) 3)), .pv (.int .i64 ((v6 2) 4)), .pv (.int .i64 ((v6 2) 5)), .pv (.int .i64 ((v6 2) 6)), .pv (.int .i64 ((v6 3) 0)), .pv (.int .i64 ((v6 3) 1)), .pv (.int .i64 ((v6 3) 2)), .pv (.int .i64 ((v6 3) 3)), .pv (.int .i64 ((v6 3) 4)), .pv (.int .i64 ((v6 3) 5)), .pv (.int .i64 ((v6 3) 6)), .pv (.int .i64 ((v6 4) 0)), .pv (.int .i64 ((v6 4) 1)), .pv (.int .i64 ((v6 4) 2)), .pv (.int .i64 ((v6 4) 3)), .pv (.int .i64 ((v6 4) 4)), .pv (.int .i64 ((v6 4) 5)), .pv (.int .i64 ((v6 4) 6)), .pv (.int .i64 ((v6 5) 0)), .pv (.int .i64 ((v6 5) 1)), .pv (.int .i64 ((v6 5) 2)), .pv (.int .i64 ((v6 5) 3)), .pv (.int .i64 ((v6 5) 4)), .pv (.int .i64 ((v6 5) 5)), .pv (.int .i64 ((v6 5) 6)), .pv (.int .i64 ((v6 6) 0)), .pv (.int .i64 ((v6 6) 1)), .pv (.int .i64 ((v6 6) 2)), .pv (.int .i64 ((v6 6) 3)), .pv (.int .i64 ((v6 6) 4)), .pv (.int .i64 ((v6 6) 5)), .pv (.int .i64 ((v6 6) 6))]) (wm [0, 0, 0, 0, 0, 0, 1, 65, 195, 455, 967, 8, 2056, 6168, 16383, 32767]) 15 rfl (by kernel_rfl) (by kernel_rfl) (by kernel_rfl) (by kernel_rfl) (by kernel_rfl) (gi0 rfl) (oL [] rfl (by kernel_rfl) (fl_lt (ia_boxD rfl u59 ty3 rfl rfl k7)) (oN 1 (by kernel_rfl) (oL [] rfl (by kernel_rfl) (fl_lt (ia_boxD rfl u60 ty59 rfl rfl k5)) (oE tbok [] 2 (by kernel_rfl) (oN 4 (by kernel_rfl) (oE tbok [] 3 (by kernel_rfl) (oN 3 (by kernel_rfl) trivial))))))) rfl rfl ty3 rfl rfl rfl rfl rfl (fit2 (e := (PV.int .i64)) (D2 := v4) (pre := [.int .i64 x1.2.N, .bool x1.2.None]) (post := []) (n1 := 7) (n2 := 7) (by kernel_rfl) (inA_lt k5) (inA_lt k7)) (put2 (e := (PV.int .i64)) (D2 := v4) (pre := [.int .i64 x1.2.N, .bool x1.2.None]) (post := []) (n1 := 7) (n2 := 7) (by kernel_rfl) (inA_lt k5) (inA_lt k7) (retE k8) (by kernel_rfl)) (SetAt.eq .z) ?_
          refine d_endS (env2 := [(0, [.c (.box 0 0)]), (1, [.c (.pv (.int .i64 a1))]), (4, [.c (.pv (.int .i64 x1.1))])]) (wm [0, 0, 0, 0, 0, 0, 1, 65, 195, 455, 967, 8, 2056, 6168, 16383, 32767]) (by kernel_rfl) (by kernel_rfl) (by kernel_rfl) (oN 16 (by kernel_rfl) trivial) (sub_cons rfl (sub_cons rfl (sub_cons rfl sub_nil))) (wB wM) ?_
          refine bN ?_
          obtain rfl := retE h
          refine mN ?_
          exact wkE (by kernel_rfl) (by kernel_rfl)
        · have h := iteF h k2
          refine skip_ ?_
          refine bN ?_
          obtain rfl := retE h
          refine mN ?_
          refine w_sub (env' := [(0, [.c (.box 0 0)]), (1, [.c (.pv (.int .i64 a1))]), (4, [.c (.pv (.int .i64 x1.1))])]) (sub_cons rfl (sub_cons rfl (sub_cons rfl sub_nil))) ?_
          exact wkE (by kernel_rfl) (by kernel_rfl)
      · refine then_ ?_
        refine region_ ?_
        refine R tbok 3 [4, 0, 1] [(4, [.c (.pv (.int .i64 (IntKind.i64.wrap (x1.1 + 1))))]), (0, [.c (.box 0 0)]), (1, [.c (.pv (.int .i64 a1))])] (by kernel_rfl) ?_
        refine ops_nil ?_
        obtain rfl := retE h
        refine lN ?_
        refine w_sub (env' := [(0, [.c (.box 0 0)]), (1, [.c (.pv (.int .i64 a1))]), (4, [.c (.pv (.int .i64 (IntKind.i64.wrap (x1.1 + 1))))])]) (sub_cons rfl (sub_cons rfl (sub_cons rfl sub_nil))) ?_
        exact wkE (by kernel_rfl) (by kernel_rfl)
    · have h := iteF h k1
      refine exit_ ?_
      refine tX ?_
      obtain rfl := retE h
      refine lX ?_
      refine w_sub (env' := []) sub_nil ?_
      exact wkE (by kernel_rfl) (by kernel_rfl)
  · cases h
  · have h := elimR h
    obtain rfl := retE h
    refine rwn .nil ?_
    exact wkE (by kernel_rfl) (by kernel_rfl)

theorem zone_Zone_own_meets {a0 : zone_Zone} {r : zone_Zone} (h : zone_Zone_own a0 = some r) : MeetsS Tryz.prog GG 182 [.c (.box 0 0)] [some (.box true 62 (bs (e_zone_Zone a0)))] [] [some (.box true 62 (bs (e_zone_Zone r)))] := by
  refine meetsW_of (N := 39) r_zone_Zone_own o_zone_Zone_own r Tryz.func182 rfl rfl rfl (by dsimp only [argEnv]) rfl ?_
  unfold zone_Zone_own at h
  refine seq_ ?_
  refine region_ ?_
  refine R tbok 1 [2, 0] [(2, [.c (.pv (.int .i64 1))]), (0, [.c (.box 0 0)])] (by kernel_rfl) ?_
  refine ops_nil ?_
  refine then_ ?_
  refine lp_ (Qr := RW Tryz.prog GG Tryz.f182 1 r_zone_Zone_own o_zone_Zone_own) (zone_Zone_own_l1) (fun (x1 : (Int × zone_Zone)) => (⟨39, 1, [(0, [.c (.box 0 0)]), (2, [.c (.pv (.int .i64 x1.1))])], [some (.box true 62 (bs (e_zone_Zone x1.2)))]⟩ : Sx)) (fun (j1 : zone_Zone) => (⟨39, 1, [], [some (.box true 62 (bs (e_zone_Zone j1)))]⟩ : Sx)) (1, a0) RW.only h wW ?_ (fun x1 o h => ?_) (fun r h s' hs => ?_) (fun j1 h => ?_)
  · refine w_sub (env' := [(0, [.c (.box 0 0)]), (2, [.c (.pv (.int .i64 1))])]) (sub_cons rfl (sub_cons rfl sub_nil)) ?_
    exact wkE (by kernel_rfl) (by kernel_rfl)
  · unfold zone_Zone_own_l1 at h
    refine seq_ ?_
    refine seq_ ?_
    refine region_ ?_
    refine R tbok 6 [8, 0, 2] [(8, [.c (.pv (.bool (decide (x1.1 ≤ x1.2.N))))]), (0, [.c (.box 0 0)]), (2, [.c (.pv (.int .i64 x1.1))])] (by kernel_rfl) ?_
    refine ops_nil ?_
    refine then_ ?_
    refine cond_ (b := (decide (x1.1 ≤ x1.2.N))) rfl (fun k1 => ?_) (fun k1 => ?_)
    · have h := iteT h k1
      refine skip_ ?_
      refine then_ ?_
      refine seq_ ?_
      refine block_ ?_
      refine seq_ ?_
      refine drawn_ mixed ?_
      refine dl (t := 11) 0 [.c (.box 0 0)] rfl ?_
      refine dl (t := 12) 1 [.c (.pv (.int .i64 x1.1))] rfl ?_
      refine dl (t := 13) 2 [.c (.box 0 0)] rfl ?_
      refine dl (t := 14) 3 [.c (.pv (.int .i64 x1.1))] rfl ?_
      refine dl (t := 15) 4 [.c (.box 0 0)] rfl ?_
      refine dl (t := 16) 5 [.c (.box 0 2)] rfl ?_
      obtain ⟨v1, k2, h⟩ := bindE h
      refine dl (t := 17) 6 [.c (.box 0 (2 + v1 * 7))] rfl ?_
      refine dl (t := 18) 7 [.c (.box 0 (2 + v1 * 7 + 0 * 1))] rfl ?_
      refine dl (t := 19) 8 [.c (.pv (.int .i64 ((x1.2.D v1) 0)))] rfl ?_
      refine dl (t := 20) 9 [.c (.pv (.int .i64 (min ((x1.2.D v1) 0) 2147483647)))] rfl ?_
      refine dl (t := 21) 10 [.c (.box 0 0)] rfl ?_
      refine dl (t := 22) 11 [.c (.box 0 2)] rfl ?_
      obtain ⟨v2, k3, h⟩ := bindE h
      refine dl (t := 23) 12 [.c (.box 0 (2 + v2 * 7))] rfl ?_
      refine dl (t := 24) 13 [.c (.box 0 (2 + v2 * 7 + 0 * 1))] rfl ?_
      obtain ⟨v3, k4, h⟩ := bindE h
      refine d_storeG (cs' := [.pv (.int .i64 x1.2.N), .pv (.bool x1.2.None), .pv (.int .i64 ((v3 0) 0)), .pv (.int .i64 ((v3 0) 1)), .pv (.int .i64 ((v3 0) 2)), .pv (.int .i64 ((v3 0) 3)), .pv (.int .i64 ((v3 0) 4)), .pv (.int .i64 ((v3 0) 5)), .pv (.int .i64 ((v3 0) 6)), .pv (.int .i64 ((v3 1) 0)), .pv (.int .i64 ((v3 1) 1)), .pv (.int .i64 ((v3 1) 2)), .pv (.int .i64 ((v3 1) 3)), .pv (.int .i64 ((v3 1) 4)), .pv (.int .i64 ((v3 1) 5)), .pv (.int .i64 ((v3 1) 6)), .pv (.int .i64 ((v3 2) 0)), .pv (.int .i64 ((v3 2) 1)), .pv (.int .i64 ((v3 2) 2)), .pv (.int .i64 ((v3 2) 3)), .pv (.int .i64 ((v3 2) 4)), .pv (.int .i64 ((v3 2) 5)), .pv (.int .i64 ((v3 2) 6)), .pv (.int .i64 ((v3 3) 0)), .pv (.int .i64 ((v3 3) 1)), .pv (.int .i64 ((v3 3) 2)), .pv (.int .i64 ((v3 3) 3)), .pv (.int .i64 ((v3 3) 4)), .pv (.int .i64 ((v3 3) 5)), .pv (.int .i64 ((v3 3) 6)), .pv (.int .i64 ((v3 4) 0)), .pv (.int .i64 ((v3 4) 1)), .pv (.int .i64 ((v3 4) 2)), .pv (.int .i64 ((v3 4) 3)), .pv (.int .i64 ((v3 4) 4)), .pv (.int .i64 ((v3 4) 5)), .pv (.int .i64 ((v3 4) 6)), .pv (.int .i64 ((v3 5) 0)), .pv (.int .i64 ((v3 5) 1)), .pv (.int .i64 ((v3 5) 2)), .pv (.int .i64 ((v3 5) 3)), .pv (.int .i64 ((v3 5) 4)), .pv (.int .i64 ((v3 5) 5)), .pv (.int .i64 ((v3 5) 6)), .pv (.int .i64 ((v3 6) 0)), .pv (.int .i64 ((v3 6) 1)), .pv (.int .i64 ((v3 6) 2)), .pv (.int .i64 ((v3 6) 3)), .pv (.int .i64 ((v3 6) 4)), .pv (.int .i64 ((v3 6) 5)), .pv (.int .i64 ((v3 6) 6))]) (wm [0, 0, 0, 0, 4, 20, 60, 124, 252, 508, 1, 1025, 3075, 8191, 16383]) 14 rfl (by kernel_rfl) (by kernel_rfl) (by kernel_rfl) (by kernel_rfl) (by kernel_rfl) (gi0 rfl) (oL [] rfl (by kernel_rfl) (fl_lt (ia_boxD rfl u59 ty3 rfl rfl (kk := 0) (by rfl))) (oL [] rfl (by kernel_rfl) (fl_lt (ia_boxD rfl u60 ty59 rfl rfl k3)) (oE tbok [] 2 (by kernel_rfl) (oL [] rfl (by kernel_rfl) (fl_lt (lt_min2 rfl rfl rfl)) (oL [] rfl (by kernel_rfl) (fl_lt (lt_load_box rfl ty3 rfl rfl (at2 (e := (PV.int .i64)) (D2 := x1.2.D) (pre := [.int .i64 x1.2.N, .bool x1.2.None]) (post := []) (n1 := 7) (n2 := 7) (by kernel_rfl) (inA_lt k2) (by decide)))) (oL [] rfl (by kernel_rfl) (fl_lt (ia_boxD rfl u59 ty3 rfl rfl (kk := 0) (by rfl))) (oL [] rfl (by kernel_rfl) (fl_lt (ia_boxD rfl u60 ty59 rfl rfl k2)) (oE tbok [] 6 (by kernel_rfl) trivial)))))))) rfl rfl ty3 rfl rfl rfl rfl rfl (fit2 (e := (PV.int .i64)) (D2 := x1.2.D) (pre := [.int .i64 x1.2.N, .bool x1.2.None]) (post := []) (n1 := 7) (n2 := 7) (by kernel_rfl) (inA_lt k3) (by decide)) (put2 (e := (PV.int .i64)) (D2 := x1.2.D) (pre := [.int .i64 x1.2.N, .bool x1.2.None]) (post := []) (n1 := 7) (n2 := 7) (by kernel_rfl) (inA_lt k3) (by decide) (retE k4) (by kernel_rfl)) (SetAt.eq .z) ?_
      refine d_endS (env2 := [(0, [.c (.box 0 0)]), (2, [.c (.pv (.int .i64 x1.1))])]) (wm [0, 0, 0, 0, 4, 20, 60, 124, 252, 508, 1, 1025, 3075, 8191, 16383]) (by kernel_rfl) (by kernel_rfl) (by kernel_rfl) (oN 15 (by kernel_rfl) trivial) (sub_cons rfl (sub_cons rfl sub_nil)) wT ?_
      refine then_ ?_
      refine drawn_ mixed ?_
      refine dl (t := 25) 0 [.c (.box 0 0)] rfl ?_
      refine dl (t := 26) 1 [.c (.pv (.int .i64 x1.1))] rfl ?_
      refine dl (t := 27) 2 [.c (.box 0 0)] rfl ?_
      refine dl (t := 28) 3 [.c (.pv (.int .i64 x1.1))] rfl ?_
      refine dl (t := 29) 4 [.c (.box 0 0)] rfl ?_
      refine dl (t := 30) 5 [.c (.box 0 2)] rfl ?_
      refine dl (t := 31) 6 [.c (.box 0 2)] rfl ?_
      obtain ⟨v4, k5, h⟩ := bindE h
      refine dl (t := 32) 7 [.c (.box 0 (2 + 0 * 7 + v4 * 1))] rfl ?_
      refine dl (t := 33) 8 [.c (.pv (.int .i64 ((v3 0) v4)))] rfl ?_
      refine dl (t := 34) 9 [.c (.pv (.int .i64 (min ((v3 0) v4) 2147483648)))] rfl ?_
      refine dl (t := 35) 10 [.c (.box 0 0)] rfl ?_
      refine dl (t := 36) 11 [.c (.box 0 2)] rfl ?_
      refine dl (t := 37) 12 [.c (.box 0 2)] rfl ?_
      obtain ⟨v5, k6, h⟩ := bindE h
      refine dl (t := 38) 13 [.c (.box 0 (2 + 0 * 7 + v5 * 1))] rfl ?_
      obtain ⟨v6, k7, h⟩ := bindE h
      refine d_storeG (cs' := [.pv (.int .i64 x1.2.N), .pv (.bool x1.2.None), .pv (.int .i64 ((v6 0) 0)), .pv (.int .i64 ((v6 0) 1)), .pv (.int .i64 ((v6 0) 2)), .pv (.int .i64 ((v6 0) 3)), .pv (.int .i64 ((v6 0) 4)), .pv (.int .i64 ((v6 0) 5)), .pv (.int .i64 ((v6 0) 6)), .pv (.int .i64 ((v6 1) 0)), .pv (.int .i64 ((v6 1) 1)), .pv (.int .i64 ((v6 1) 2)), .pv (.int .i64 ((v6 1) 3)), .pv (.int .i64 ((v6 1) 4)), .pv (.int .i64 ((v6 1) 5)), .pv (.int .i64 ((v6 1) 6)), .pv (.int .i64 ((v6 2) 0)), .pv (.int .i64 ((v6 2) 1)), .pv (.int .i64 ((v6 2) 2)), .pv (.int .i64 ((v6 2) 3)), .pv (.int .i64 ((v6 2) 4)), .pv (.int .i64 ((v6 2) 5)), .pv (.int .i64 ((v6 2) 6)), .pv (.int .i64 ((v6 3) 0)), .pv (.int .i64 ((v6 3) 1)), .pv (.int .i64 ((v6 3) 2)), .pv (.int .i64 ((v6 3) 3)), .pv (.int .i64 ((v6 3) 4)), .pv (.int .i64 ((v6 3) 5)), .pv (.int .i64 ((v6 3) 6)), .pv (.int .i64 ((v6 4) 0)), .pv (.int .i64 ((v6 4) 1)), .pv (.int .i64 ((v6 4) 2)), .pv (.int .i64 ((v6 4) 3)), .pv (.int .i64 ((v6 4) 4)), .pv (.int .i64 ((v6 4) 5)), .pv (.int .i64 ((v6 4) 6)), .pv (.int .i64 ((v6 5) 0)), .pv (.int .i64 ((v6 5) 1)), .pv (.int .i64 ((v6 5) 2)), .pv (.int .i64 ((v6 5) 3)), .pv (.int .i64 ((v6 5) 4)), .pv (.int .i64 ((v6 5) 5)), .pv (.int .i64 ((v6 5) 6)), .pv (.int .i64 ((v6 6) 0)), .pv (.int .i64 ((v6 6) 1)), .pv (.int .i64 ((v6 6) 2)), .pv (.int .i64 ((v6 6) 3)), .pv (.int .i64 ((v6 6) 4)), .pv (.int .i64 ((v6 6) 5)), .pv (.int .i64 ((v6 6) 6))]) (wm [0, 0, 0, 0, 4, 20, 52, 124, 252, 508, 1, 1025, 3073, 8191, 16383]) 14 rfl (by kernel_rfl) (by kernel_rfl) (by kernel_rfl) (by kernel_rfl) (by kernel_rfl) (gi0 rfl) (oL [] rfl (by kernel_rfl) (fl_lt (ia_boxD rfl u59 ty3 rfl rfl k6)) (oL [] rfl (by kernel_rfl) (fl_lt (ia_box rfl u60 ty59 rfl rfl rfl 2 rfl)) (oE tbok [] 2 (by kernel_rfl) (oL [] rfl (by kernel_rfl) (fl_lt (lt_min2 rfl rfl rfl)) (oL [] rfl (by kernel_rfl) (fl_lt (lt_load_box rfl ty3 rfl rfl (at2 (e := (PV.int .i64)) (D2 := v3) (pre := [.int .i64 x1.2.N, .bool x1.2.None]) (post := []) (n1 := 7) (n2 := 7) (by kernel_rfl) (by decide) (inA_lt k5)))) (oL [] rfl (by kernel_rfl) (fl_lt (ia_boxD rfl u59 ty3 rfl rfl k5)) (oL [] rfl (by kernel_rfl) (fl_lt (ia_box rfl u60 ty59 rfl rfl rfl 2 rfl)) (oE tbok [] 6 (by kernel_rfl) trivial)))))))) rfl rfl ty3 rfl rfl rfl rfl rfl (fit2 (e := (PV.int .i64)) (D2 := v3) (pre := [.int .i64 x1.2.N, .bool x1.2.None]) (post := []) (n1 := 7) (n2 := 7) (by kernel_rfl) (by decide) (inA_lt k6)) (put2 (e := (PV.int .i64)) (D2 := v3) (pre := [.int .i64 x1.2.N, .bool x1.2.None]) (post := []) (n1 := 7) (n2 := 7) (by kernel_rfl) (by decide) (inA_lt k6) (retE k7) (by kernel_rfl)) (SetAt.eq .z) ?_
      refine d_endS (env2 := [(0, [.c (.box 0 0)]), (2, [.c (.pv (.int .i64 x1.1))])]) (wm [0, 0, 0, 0, 4, 20, 52, 124, 252, 508, 1, 1025, 3073, 8191, 16383]) (by kernel_rfl) (by kernel_rfl) (by kernel_rfl) (oN 15 (by kernel_rfl) trivial) (sub_cons rfl (sub_cons rfl sub_nil)) (wB wT) ?_
      refine bN ?_
      refine then_ ?_
      refine region_ ?_
      refine R tbok 3 [2, 0] [(2, [.c (.pv (.int .i64 (IntKind.i64.wrap (x1.1 + 1))))]), (0, [.c (.box 0 0)])] (by kernel_rfl) ?_
      refine ops_nil ?_
      obtain rfl := retE h
      refine lN ?_
      refine w_sub (env' := [(0, [.c (.box 0 0)]), (2, [.c (.pv (.int .i64 (IntKind.i64.wrap (x1.1 + 1))))])]) (sub_cons rfl (sub_cons rfl sub_nil)) ?_
      exact wkE (by kernel_rfl) (by kernel_rfl)
    · have h := iteF h k1
      refine exit_ ?_
      refine tX ?_
      obtain rfl := retE h
      refine lX ?_
      refine w_sub (env' := []) sub_nil ?_
      exact wkE (by kernel_rfl) (by kernel_rfl)
  · cases h
  · have h := elimR h
    obtain rfl := retE h
    refine rwn .nil ?_
    exact wkE (by kernel_rfl) (by kernel_rfl)

theorem zone_none_meets {a0 : Int} {r : zone_Zone} (h : zone_none a0 = some r) : MeetsV Tryz.prog GG 183 [.c (.pv (.int .i64 a0))] [.agg (bs (e_zone_Zone r))] := by
  refine MeetsS.toV (meetsW_of (st0 := []) (N := 5) r_zone_none o_zone_none r Tryz.func183 rfl rfl rfl (by dsimp only [argEnv]) rfl ?_) rfl
  unfold zone_none at h
  refine seq_ ?_
  refine region_ ?_
  refine B rfl rfl (bir_alloc rfl z62 rfl rfl) rfl rfl .z ?_
  refine ops_nil ?_
  refine then_ ?_
  refine seq_ ?_
  refine region_ ?_
  refine R tbok 1 [3, 2] [(3, [.c (.pv (.int .i64 a0))]), (2, [.c (.box 0 0)])] (by kernel_rfl) ?_
  refine L rfl rfl (lt_build (cs := (bs (e_zone_Zone (zone_Zone.mk a0 true (arr (arr 0 []) [(arr 0 [0, 0, 0, 0, 0, 0, 0]), (arr 0 [0, 0, 0, 0, 0, 0, 0]), (arr 0 [0, 0, 0, 0, 0, 0, 0]), (arr 0 [0, 0, 0, 0, 0, 0, 0]), (arr 0 [0, 0, 0, 0, 0, 0, 0]), (arr 0 [0, 0, 0, 0, 0, 0, 0]), (arr 0 [0, 0, 0, 0, 0, 0, 0])]))))) rfl st62 rfl (by kernel_rfl)) rfl ?_
  refine S rfl rfl rfl ty62 (by decide) rfl rfl rfl rfl rfl (.all rfl) .z ?_
  refine ops_nil ?_
  refine then_ ?_
  refine ret_ ?_
  obtain rfl := retE h
  refine rwr (rw_ (.cellA (ys := (bs (e_zone_Zone (zone_Zone.mk a0 true (arr (arr 0 []) [(arr 0 [0, 0, 0, 0, 0, 0, 0]), (arr 0 [0, 0, 0, 0, 0, 0, 0]), (arr 0 [0, 0, 0, 0, 0, 0, 0]), (arr 0 [0, 0, 0, 0, 0, 0, 0]), (arr 0 [0, 0, 0, 0, 0, 0, 0]), (arr 0 [0, 0, 0, 0, 0, 0, 0]), (arr 0 [0, 0, 0, 0, 0, 0, 0])]))))) ty62 rfl rfl (by kernel_rfl) (by kernel_rfl) .nil) ?_)
  refine w_none 0 .z ?_
  refine w_cut 0 rfl rfl rfl rfl ?_
  exact wkE (by kernel_rfl) (by kernel_rfl)

theorem zone_Zone_close_meets {a0 : zone_Zone} {r : zone_Zone} (h : zone_Zone_close a0 = some r) : MeetsV Tryz.prog GG 142 [.agg (bs (e_zone_Zone a0))] [.agg (bs (e_zone_Zone r))] := by
  refine MeetsS.toV (meetsW_of (st0 := []) (N := 77) r_zone_Zone_close o_zone_Zone_close r Tryz.func142 rfl rfl rfl (by dsimp only [argEnv]) rfl ?_) rfl
  unfold zone_Zone_close at h
  refine seq_ ?_
  refine region_ ?_
  refine B rfl rfl (bir_box rfl rfl rfl) rfl rfl .z ?_
  refine B rfl rfl (bir_alloc rfl z62 rfl rfl) rfl rfl (.s .z) ?_
  refine ops_nil ?_
  refine then_ ?_
  refine seq_ ?_
  refine seq_ ?_
  refine jn_ (fun (j1 : Bool) => (⟨77, 0, [(1, [.c (.box 0 0)]), (2, [.c (.box 1 0)]), (14, [.c (.pv (.bool j1))])], [some (.box true 62 (bs (e_zone_Zone a0))), some (.box true 62 (bs (e_zone_Zone (zone_Zone.mk 0 false (arr (arr 0 []) [(arr 0 [0, 0, 0, 0, 0, 0, 0]), (arr 0 [0, 0, 0, 0, 0, 0, 0]), (arr 0 [0, 0, 0, 0, 0, 0, 0]), (arr 0 [0, 0, 0, 0, 0, 0, 0]), (arr 0 [0, 0, 0, 0, 0, 0, 0]), (arr 0 [0, 0, 0, 0, 0, 0, 0]), (arr 0 [0, 0, 0, 0, 0, 0, 0])])))))]⟩ : Sx)) h wT (fun o h => ?_) (fun j1 h => ?_)
  · refine region_ ?_
    refine R tbok 3 [9, 2, 1] [(9, [.c (.pv (.bool a0.None))]), (2, [.c (.box 1 0)]), (1, [.c (.box 0 0)])] (by kernel_rfl) ?_
    refine (tf a0.None).elim (fun k1 => ?_) (fun k1 => ?_)
    · have h := iteT h k1
      refine Ls0 rfl rfl rfl k1 rfl rfl ?_
      refine Ls0 rfl rfl rfl k1 rfl rfl ?_
      refine Ls0 rfl rfl rfl k1 rfl rfl ?_
      refine Ls0 rfl rfl rfl k1 rfl rfl ?_
      refine L rfl rfl (lt_pickT rfl rfl k1 rfl) rfl ?_
      refine ops_nil ?_
      obtain rfl := retE h
      refine mN ?_
      refine w_sub (env' := [(1, [.c (.box 0 0)]), (2, [.c (.box 1 0)]), (14, [.c (.pv (.bool true))])]) (sub_cons rfl (sub_cons rfl (sub_cons rfl sub_nil))) ?_
      exact wkE (by kernel_rfl) (by kernel_rfl)
    · have h := iteF h k1
      refine Lg rfl rfl rfl k1 rfl (lt_fa_box rfl f62_0 ty3 (by decide) rfl) rfl ?_
      refine Lg rfl rfl rfl k1 rfl (lt_load_box rfl ty3 rfl rfl rfl) rfl ?_
      obtain ⟨v1, k2, h⟩ := bindE h
      refine Hg rfl rfl rfl k1 rfl rfl (op_fl rfl rfl (fl_call rfl Tryz.call116 rfl (by kernel_rfl) (by kernel_rfl) (zone_count_meets k2)) ?_)
      refine Lg rfl rfl rfl k1 rfl (lt_not rfl rfl) rfl ?_
      refine L rfl rfl (lt_pickF rfl rfl k1 rfl) rfl ?_
      refine ops_nil ?_
      obtain rfl := retE h
      refine mN ?_
      refine w_sub (env' := [(1, [.c (.box 0 0)]), (2, [.c (.box 1 0)]), (14, [.c (.pv (.bool (!v1)))])]) (sub_cons rfl (sub_cons rfl (sub_cons rfl sub_nil))) ?_
      exact wkE (by kernel_rfl) (by kernel_rfl)
  · refine then_ ?_
    refine cond_ (b := j1) rfl (fun k3 => ?_) (fun k3 => ?_)
    · have h := iteT h k3
      refine seq_ ?_
      refine region_ ?_
      refine R tbok 1 [15, 1, 2] [(15, [.agg (bs (e_zone_Zone a0))]), (1, [.c (.box 0 0)]), (2, [.c (.box 1 0)])] (by kernel_rfl) ?_
      refine S rfl rfl rfl ty62 (by decide) rfl rfl rfl rfl rfl (.all rfl) (.s .z) ?_
      refine ops_nil ?_
      refine then_ ?_
      refine ret_ ?_
      obtain rfl := retE h
      refine tR (rwr (rw_ (.cellA (ys := (bs (e_zone_Zone a0))) ty62 rfl rfl (by kernel_rfl) (by kernel_rfl) .nil) ?_))
      refine w_none 0 .z ?_
      refine w_none 1 (.s .z) ?_
      refine w_cut 0 rfl rfl rfl rfl ?_
      exact wkE (by kernel_rfl) (by kernel_rfl)
    · have h := iteF h k3
      refine skip_ ?_
      refine then_ ?_
      refine seq_ ?_
      refine region_ ?_
      obtain ⟨v2, k4, h⟩ := bindE h
      refine callS (env' := [(1, [.c (.box 0 0)]), (2, [.c (.box 1 0)]), (14, [.c (.pv (.bool j1))])]) (argsX' := []) (st' := [some (.box true 62 (bs (e_zone_Zone v2))), some (.box true 62 (bs (e_zone_Zone (zone_Zone.mk 0 false (arr (arr 0 []) [(arr 0 [0, 0, 0, 0, 0, 0, 0]), (arr 0 [0, 0, 0, 0, 0, 0, 0]), (arr 0 [0, 0, 0, 0, 0, 0, 0]), (arr 0 [0, 0, 0, 0, 0, 0, 0]), (arr 0 [0, 0, 0, 0, 0, 0, 0]), (arr 0 [0, 0, 0, 0, 0, 0, 0]), (arr 0 [0, 0, 0, 0, 0, 0, 0])])))))]) [0] [] rfl rfl rfl rfl Tryz.call182 rfl rfl (by kernel_rfl) (by kernel_rfl) (zone_Zone_own_meets k4) (by kernel_rfl) (by kernel_rfl) (by kernel_rfl) ?_
      refine ops_nil ?_
      refine then_ ?_
      refine seq_ ?_
      refine seq_ ?_
      refine region_ ?_
      refine R tbok 1 [3, 1, 2] [(3, [.c (.pv (.int .i64 0))]), (1, [.c (.box 0 0)]), (2, [.c (.box 1 0)])] (by kernel_rfl) ?_
      refine ops_nil ?_
      refine then_ ?_
      refine lp_ (Qr := RW Tryz.prog GG Tryz.f142 0 r_zone_Zone_close o_zone_Zone_close) (zone_Zone_close_l2) (fun (x2 : (Int × zone_Zone)) => (⟨77, 0, [(1, [.c (.box 0 0)]), (2, [.c (.box 1 0)]), (3, [.c (.pv (.int .i64 x2.1))])], [some (.box true 62 (bs (e_zone_Zone x2.2))), some (.box true 62 (bs (e_zone_Zone (zone_Zone.mk 0 false (arr (arr 0 []) [(arr 0 [0, 0, 0, 0, 0, 0, 0]), (arr 0 [0, 0, 0, 0, 0, 0, 0]), (arr 0 [0, 0, 0, 0, 0, 0, 0]), (arr 0 [0, 0, 0, 0, 0, 0, 0]), (arr 0 [0, 0, 0, 0, 0, 0, 0]), (arr 0 [0, 0, 0, 0, 0, 0, 0]), (arr 0 [0, 0, 0, 0, 0, 0, 0])])))))]⟩ : Sx)) (fun (j2 : zone_Zone) => (⟨77, 0, [(1, [.c (.box 0 0)]), (2, [.c (.box 1 0)])], [some (.box true 62 (bs (e_zone_Zone j2))), some (.box true 62 (bs (e_zone_Zone (zone_Zone.mk 0 false (arr (arr 0 []) [(arr 0 [0, 0, 0, 0, 0, 0, 0]), (arr 0 [0, 0, 0, 0, 0, 0, 0]), (arr 0 [0, 0, 0, 0, 0, 0, 0]), (arr 0 [0, 0, 0, 0, 0, 0, 0]), (arr 0 [0, 0, 0, 0, 0, 0, 0]), (arr 0 [0, 0, 0, 0, 0, 0, 0]), (arr 0 [0, 0, 0, 0, 0, 0, 0])])))))]⟩ : Sx)) (0, v2) RW.only h wT ?_ (fun x2 o h => ?_) (fun r h s' hs => ?_) (fun j2 h => ?_)
      · refine w_sub (env' := [(1, [.c (.box 0 0)]), (2, [.c (.box 1 0)]), (3, [.c (.pv (.int .i64 0))])]) (sub_cons rfl (sub_cons rfl (sub_cons rfl sub_nil))) ?_
        exact wkE (by kernel_rfl) (by kernel_rfl)
      · unfold zone_Zone_close_l2 at h
        refine seq_ ?_
        refine seq_ ?_
        refine region_ ?_
        refine R tbok 4 [20, 1, 2, 3] [(20, [.c (.pv (.bool (decide (x2.1 ≤ x2.2.N))))]), (1, [.c (.box 0 0)]), (2, [.c (.box 1 0)]), (3, [.c (.pv (.int .i64 x2.1))])] (by kernel_rfl) ?_
        refine ops_nil ?_
        refine then_ ?_
        refine cond_ (b := (decide (x2.1 ≤ x2.2.N))) rfl (fun k5 => ?_) (fun k5 => ?_)
        · have h := iteT h k5
          refine skip_ ?_
          refine then_ ?_
          refine seq_ ?_
          refine block_ ?_
          refine seq_ ?_
          refine region_ ?_
          refine R tbok 1 [4, 1, 2, 3] [(4, [.c (.pv (.int .i64 0))]), (1, [.c (.box 0 0)]), (2, [.c (.box 1 0)]), (3, [.c (.pv (.int .i64 x2.1))])] (by kernel_rfl) ?_
          refine ops_nil ?_
          refine then_ ?_
          refine lp_ (Qr := RW Tryz.prog GG Tryz.f142 0 r_zone_Zone_close o_zone_Zone_close) (zone_Zone_close_l3 x2) (fun (x3 : (Int × zone_Zone)) => (⟨77, 0, [(1, [.c (.box 0 0)]), (2, [.c (.box 1 0)]), (3, [.c (.pv (.int .i64 x2.1))]), (4, [.c (.pv (.int .i64 x3.1))])], [some (.box true 62 (bs (e_zone_Zone x3.2))), some (.box true 62 (bs (e_zone_Zone (zone_Zone.mk 0 false (arr (arr 0 []) [(arr 0 [0, 0, 0, 0, 0, 0, 0]), (arr 0 [0, 0, 0, 0, 0, 0, 0]), (arr 0 [0, 0, 0, 0, 0, 0, 0]), (arr 0 [0, 0, 0, 0, 0, 0, 0]), (arr 0 [0, 0, 0, 0, 0, 0, 0]), (arr 0 [0, 0, 0, 0, 0, 0, 0]), (arr 0 [0, 0, 0, 0, 0, 0, 0])])))))]⟩ : Sx)) (fun (j3 : zone_Zone) => (⟨77, 0, [(1, [.c (.box 0 0)]), (2, [.c (.box 1 0)]), (3, [.c (.pv (.int .i64 x2.1))])], [some (.box true 62 (bs (e_zone_Zone j3))), some (.box true 62 (bs (e_zone_Zone (zone_Zone.mk 0 false (arr (arr 0 []) [(arr 0 [0, 0, 0, 0, 0, 0, 0]), (arr 0 [0, 0, 0, 0, 0, 0, 0]), (arr 0 [0, 0, 0, 0, 0, 0, 0]), (arr 0 [0, 0, 0, 0, 0, 0, 0]), (arr 0 [0, 0, 0, 0, 0, 0, 0]), (arr 0 [0, 0, 0, 0, 0, 0, 0]), (arr 0 [0, 0, 0, 0, 0, 0, 0])])))))]⟩ : Sx)) (0, x2.2) RW.only h (wB wT) ?_ (fun x3 o h => ?_) (fun r h s' hs => ?_) (fun j3 h => ?_)
          · refine w_sub (env' := [(1, [.c (.box 0 0)]), (2, [.c (.box 1 0)]), (3, [.c (.pv (.int .i64 x2.1))]), (4, [.c (.pv (.int .i64 0))])]) (sub_cons rfl (sub_cons rfl (sub_cons rfl (sub_cons rfl sub_nil)))) ?_
            exact wkE (by kernel_rfl) (by kernel_rfl)
          · unfold zone_Zone_close_l3 at h
            refine seq_ ?_
            refine seq_ ?_
            refine region_ ?_
            refine R tbok 4 [26, 1, 2, 3, 4] [(26, [.c (.pv (.bool (decide (x3.1 ≤ x3.2.N))))]), (1, [.c (.box 0 0)]), (2, [.c (.box 1 0)]), (3, [.c (.pv (.int .i64 x2.1))]), (4, [.c (.pv (.int .i64 x3.1))])] (by kernel_rfl) ?_
            refine ops_nil ?_
            refine then_ ?_
            refine cond_ (b := (decide (x3.1 ≤ x3.2.N))) rfl (fun k6 => ?_) (fun k6 => ?_)
            · have h := iteT h k6
              refine skip_ ?_
              refine then_ ?_
              refine seq_ ?_
              refine block_ ?_
              refine seq_ ?_
              refine region_ ?_
              refine R tbok 1 [5, 1, 2, 3, 4] [(5, [.c (.pv (.int .i64 0))]), (1, [.c (.box 0 0)]), (2, [.c (.box 1 0)]), (3, [.c (.pv (.int .i64 x2.1))]), (4, [.c (.pv (.int .i64 x3.1))])] (by kernel_rfl) ?_
              refine ops_nil ?_
              refine then_ ?_
              refine lp_ (Qr := RW Tryz.prog GG Tryz.f142 0 r_zone_Zone_close o_zone_Zone_close) (zone_Zone_close_l4 x2 x3) (fun (x4 : (Int × zone_Zone)) => (⟨77, 0, [(1, [.c (.box 0 0)]), (2, [.c (.box 1 0)]), (3, [.c (.pv (.int .i64 x2.1))]), (4, [.c (.pv (.int .i64 x3.1))]), (5, [.c (.pv (.int .i64 x4.1))])], [some (.box true 62 (bs (e_zone_Zone x4.2))), some (.box true 62 (bs (e_zone_Zone (zone_Zone.mk 0 false (arr (arr 0 []) [(arr 0 [0, 0, 0, 0, 0, 0, 0]), (arr 0 [0, 0, 0, 0, 0, 0, 0]), (arr 0 [0, 0, 0, 0, 0, 0, 0]), (arr 0 [0, 0, 0, 0, 0, 0, 0]), (arr 0 [0, 0, 0, 0, 0, 0, 0]), (arr 0 [0, 0, 0, 0, 0, 0, 0]), (arr 0 [0, 0, 0, 0, 0, 0, 0])])))))]⟩ : Sx)) (fun (j4 : zone_Zone) => (⟨77, 0, [(1, [.c (.box 0 0)]), (2, [.c (.box 1 0)]), (3, [.c (.pv (.int .i64 x2.1))]), (4, [.c (.pv (.int .i64 x3.1))])], [some (.box true 62 (bs (e_zone_Zone j4))), some (.box true 62 (bs (e_zone_Zone (zone_Zone.mk 0 false (arr (arr 0 []) [(arr 0 [0, 0, 0, 0, 0, 0, 0]), (arr 0 [0, 0, 0, 0, 0, 0, 0]), (arr 0 [0, 0, 0, 0, 0, 0, 0]), (arr 0 [0, 0, 0, 0, 0, 0, 0]), (arr 0 [0, 0, 0, 0, 0, 0, 0]), (arr 0 [0, 0, 0, 0, 0, 0, 0]), (arr 0 [0, 0, 0, 0, 0, 0, 0])])))))]⟩ : Sx)) (0, x3.2) RW.only h (wB wT) ?_ (fun x4 o h => ?_) (fun r h s' hs => ?_) (fun j4 h => ?_)
              · refine w_sub (env' := [(1, [.c (.box 0 0)]), (2, [.c (.box 1 0)]), (3, [.c (.pv (.int .i64 x2.1))]), (4, [.c (.pv (.int .i64 x3.1))]), (5, [.c (.pv (.int .i64 0))])]) (sub_cons rfl (sub_cons rfl (sub_cons rfl (sub_cons rfl (sub_cons rfl sub_nil))))) ?_
                exact wkE (by kernel_rfl) (by kernel_rfl)
              · unfold zone_Zone_close_l4 at h
                refine seq_ ?_
                refine seq_ ?_
                refine region_ ?_
                refine R tbok 4 [32, 1, 2, 3, 4, 5] [(32, [.c (.pv (.bool (decide (x4.1 ≤ x4.2.N))))]), (1, [.c (.box 0 0)]), (2, [.c (.box 1 0)]), (3, [.c (.pv (.int .i64 x2.1))]), (4, [.c (.pv (.int .i64 x3.1))]), (5, [.c (.pv (.int .i64 x4.1))])] (by kernel_rfl) ?_
                refine ops_nil ?_
                refine then_ ?_
                refine cond_ (b := (decide (x4.1 ≤ x4.2.N))) rfl (fun k7 => ?_) (fun k7 => ?_)
                · have h := iteT h k7
                  refine skip_ ?_
                  refine then_ ?_
                  refine seq_ ?_
                  refine block_ ?_
                  refine drawn_ mixed ?_
                  refine dl (t := 35) 0 [.c (.pv (.int .i64 x3.1))] rfl ?_
                  refine dl (t := 36) 1 [.c (.pv (.int .i64 x4.1))] rfl ?_
                  refine dl (t := 37) 2 [.c (.pv (.int .i64 x3.1))] rfl ?_
                  refine dl (t := 38) 3 [.c (.pv (.int .i64 x4.1))] rfl ?_
                  refine dl (t := 39) 4 [.c (.box 0 2)] rfl ?_
                  obtain ⟨v3, k8, h⟩ := bindE h
                  refine dl (t := 40) 5 [.c (.box 0 (2 + v3 * 7))] rfl ?_
                  obtain ⟨v4, k9, h⟩ := bindE h
                  refine dl (t := 41) 6 [.c (.box 0 (2 + v3 * 7 + v4 * 1))] rfl ?_
                  refine dl (t := 42) 7 [.c (.pv (.int .i64 ((x4.2.D v3) v4)))] rfl ?_
                  refine dl (t := 43) 8 [.c (.pv (.int .i64 x3.1))] rfl ?_
                  refine dl (t := 44) 9 [.c (.pv (.int .i64 x2.1))] rfl ?_
                  refine dl (t := 45) 10 [.c (.box 0 2)] rfl ?_
                  obtain ⟨v5, k10, h⟩ := bindE h
                  refine dl (t := 46) 11 [.c (.box 0 (2 + v5 * 7))] rfl ?_
                  obtain ⟨v6, k11, h⟩ := bindE h
                  refine dl (t := 47) 12 [.c (.box 0 (2 + v5 * 7 + v6 * 1))] rfl ?_
                  refine dl (t := 48) 13 [.c (.pv (.int .i64 ((x4.2.D v5) v6)))] rfl ?_
                  refine dl (t := 49) 14 [.c (.pv (.int .i64 x2.1))] rfl ?_
                  refine dl (t := 50) 15 [.c (.pv (.int .i64 x4.1))] rfl ?_
                  refine dl (t := 51) 16 [.c (.box 0 2)] rfl ?_
                  obtain ⟨v7, k12, h⟩ := bindE h
                  refine dl (t := 52) 17 [.c (.box 0 (2 + v7 * 7))] rfl ?_
                  obtain ⟨v8, k13, h⟩ := bindE h
                  refine dl (t := 53) 18 [.c (.box 0 (2 + v7 * 7 + v8 * 1))] rfl ?_
                  refine dl (t := 54) 19 [.c (.pv (.int .i64 ((x4.2.D v7) v8)))] rfl ?_
                  refine dl (t := 55) 20 [.c (.pv (.int .i64 (IntKind.i64.wrap (((x4.2.D v5) v6) + ((x4.2.D v7) v8)))))] rfl ?_
                  refine dl (t := 56) 21 [.c (.pv (.int .i64 (min ((x4.2.D v3) v4) (IntKind.i64.wrap (((x4.2.D v5) v6) + ((x4.2.D v7) v8))))))] rfl ?_
                  refine dl (t := 57) 22 [.c (.box 0 2)] rfl ?_
                  obtain ⟨v9, k14, h⟩ := bindE h
                  refine dl (t := 58) 23 [.c (.box 0 (2 + v9 * 7))] rfl ?_
                  obtain ⟨v10, k15, h⟩ := bindE h
                  refine dl (t := 59) 24 [.c (.box 0 (2 + v9 * 7 + v10 * 1))] rfl ?_
                  obtain ⟨v11, k16, h⟩ := bindE h
                  refine d_storeG (cs' := [.pv (.int .i64 x4.2.N), .pv (.bool x4.2.None), .pv (.int .i64 ((v11 0) 0)), .pv (.int .i64 ((v11 0) 1)), .pv (.int .i64 ((v11 0) 2)), .pv (.int .i64 ((v11 0) 3)), .pv (.int .i64 ((v11 0) 4)), .pv (.int .i64 ((v11 0) 5)), .pv (.int .i64 ((v11 0) 6)), .pv (.int .i64 ((v11 1) 0)), .pv (.int .i64 ((v11 1) 1)), .pv (.int .i64 ((v11 1) 2)), .pv (.int .i64 ((v11 1) 3)), .pv (.int .i64 ((v11 1) 4)), .pv (.int .i64 ((v11 1) 5)), .pv (.int .i64 ((v11 1) 6)), .pv (.int .i64 ((v11 2) 0)), .pv (.int .i64 ((v11 2) 1)), .pv (.int .i64 ((v11 2) 2)), .pv (.int .i64 ((v11 2) 3)), .pv (.int .i64 ((v11 2) 4)), .pv (.int .i64 ((v11 2) 5)), .pv (.int .i64 ((v11 2) 6)), .pv (.int .i64 ((v11 3) 0)), .pv (.int .i64 ((v11 3) 1)), .pv (.int .i64 ((v11 3) 2)), .pv (.int .i64 ((v11 3) 3)), .pv (.int .i64 ((v11 3) 4)), .pv (.int .i64 ((v11 3) 5)), .pv (.int .i64 ((v11 3) 6)), .pv (.int .i64 ((v11 4) 0)), .pv (.int .i64 ((v11 4) 1)), .pv (.int .i64 ((v11 4) 2)), .pv (.int .i64 ((v11 4) 3)), .pv (.int .i64 ((v11 4) 4)), .pv (.int .i64 ((v11 4) 5)), .pv (.int .i64 ((v11 4) 6)), .pv (.int .i64 ((v11 5) 0)), .pv (.int .i64 ((v11 5) 1)), .pv (.int .i64 ((v11 5) 2)), .pv (.int .i64 ((v11 5) 3)), .pv (.int .i64 ((v11 5) 4)), .pv (.int .i64 ((v11 5) 5)), .pv (.int .i64 ((v11 5) 6)), .pv (.int .i64 ((v11 6) 0)), .pv (.int .i64 ((v11 6) 1)), .pv (.int .i64 ((v11 6) 2)), .pv (.int .i64 ((v11 6) 3)), .pv (.int .i64 ((v11 6) 4)), .pv (.int .i64 ((v11 6) 5)), .pv (.int .i64 ((v11 6) 6))]) (wm [0, 0, 0, 0, 0, 20, 60, 124, 0, 0, 0, 1280, 3840, 7936, 0, 0, 0, 81920, 245760, 507904, 1048320, 2097148, 0, 4194305, 16777215, 33554431]) 25 rfl (by kernel_rfl) (by kernel_rfl) (by kernel_rfl) (by kernel_rfl) (by kernel_rfl) (gi0 rfl) (oL [] rfl (by kernel_rfl) (fl_lt (ia_boxD rfl u59 ty3 rfl rfl k15)) (oL [] rfl (by kernel_rfl) (fl_lt (ia_boxD rfl u60 ty59 rfl rfl k14)) (oE tbok [] 1 (by kernel_rfl) (oL [] rfl (by kernel_rfl) (fl_lt (lt_min2 rfl rfl rfl)) (oE tbok [] 1 (by kernel_rfl) (oL [] rfl (by kernel_rfl) (fl_lt (lt_load_box rfl ty3 rfl rfl (at2 (e := (PV.int .i64)) (D2 := x4.2.D) (pre := [.int .i64 x4.2.N, .bool x4.2.None]) (post := []) (n1 := 7) (n2 := 7) (by kernel_rfl) (inA_lt k12) (inA_lt k13)))) (oL [] rfl (by kernel_rfl) (fl_lt (ia_boxD rfl u59 ty3 rfl rfl k13)) (oL [] rfl (by kernel_rfl) (fl_lt (ia_boxD rfl u60 ty59 rfl rfl k12)) (oE tbok [] 3 (by kernel_rfl) (oL [] rfl (by kernel_rfl) (fl_lt (lt_load_box rfl ty3 rfl rfl (at2 (e := (PV.int .i64)) (D2 := x4.2.D) (pre := [.int .i64 x4.2.N, .bool x4.2.None]) (post := []) (n1 := 7) (n2 := 7) (by kernel_rfl) (inA_lt k10) (inA_lt k11)))) (oL [] rfl (by kernel_rfl) (fl_lt (ia_boxD rfl u59 ty3 rfl rfl k11)) (oL [] rfl (by kernel_rfl) (fl_lt (ia_boxD rfl u60 ty59 rfl rfl k10)) (oE tbok [] 3 (by kernel_rfl) (oL [] rfl (by kernel_rfl) (fl_lt (lt_load_box rfl ty3 rfl rfl (at2 (e := (PV.int .i64)) (D2 := x4.2.D) (pre := [.int .i64 x4.2.N, .bool x4.2.None]) (post := []) (n1 := 7) (n2 := 7) (by kernel_rfl) (inA_lt k8) (inA_lt k9)))) (oL [] rfl (by kernel_rfl) (fl_lt (ia_boxD rfl u59 ty3 rfl rfl k9)) (oL [] rfl (by kernel_rfl) (fl_lt (ia_boxD rfl u60 ty59 rfl rfl k8)) (oE tbok [] 5 (by kernel_rfl) trivial))))))))))))))))) rfl rfl ty3 rfl rfl rfl rfl rfl (fit2 (e := (PV.int .i64)) (D2 := x4.2.D) (pre := [.int .i64 x4.2.N, .bool x4.2.None]) (post := []) (n1 := 7) (n2 := 7) (by kernel_rfl) (inA_lt k14) (inA_lt k15)) (put2 (e := (PV.int .i64)) (D2 := x4.2.D) (pre := [.int .i64 x4.2.N, .bool x4.2.None]) (post := []) (n1 := 7) (n2 := 7) (by kernel_rfl) (inA_lt k14) (inA_lt k15) (retE k16) (by kernel_rfl)) (SetAt.eq .z) ?_
                  refine d_endS (env2 := [(1, [.c (.box 0 0)]), (2, [.c (.box 1 0)]), (3, [.c (.pv (.int .i64 x2.1))]), (4, [.c (.pv (.int .i64 x3.1))]), (5, [.c (.pv (.int .i64 x4.1))])]) (wm [0, 0, 0, 0, 0, 20, 60, 124, 0, 0, 0, 1280, 3840, 7936, 0, 0, 0, 81920, 245760, 507904, 1048320, 2097148, 0, 4194305, 16777215, 33554431]) (by kernel_rfl) (by kernel_rfl) (by kernel_rfl) (oN 26 (by kernel_rfl) trivial) (sub_cons rfl (sub_cons rfl (sub_cons rfl (sub_cons rfl (sub_cons rfl sub_nil))))) (wB wT) ?_
                  refine bN ?_
                  refine then_ ?_
                  refine region_ ?_
                  refine R tbok 3 [5, 1, 2, 3, 4] [(5, [.c (.pv (.int .i64 (IntKind.i64.wrap (x4.1 + 1))))]), (1, [.c (.box 0 0)]), (2, [.c (.box 1 0)]), (3, [.c (.pv (.int .i64 x2.1))]), (4, [.c (.pv (.int .i64 x3.1))])] (by kernel_rfl) ?_
                  refine ops_nil ?_
                  obtain rfl := retE h
                  refine lN ?_
                  refine w_sub (env' := [(1, [.c (.box 0 0)]), (2, [.c (.box 1 0)]), (3, [.c (.pv (.int .i64 x2.1))]), (4, [.c (.pv (.int .i64 x3.1))]), (5, [.c (.pv (.int .i64 (IntKind.i64.wrap (x4.1 + 1))))])]) (sub_cons rfl (sub_cons rfl (sub_cons rfl (sub_cons rfl (sub_cons rfl sub_nil))))) ?_
                  exact wkE (by kernel_rfl) (by kernel_rfl)
                · have h := iteF h k7
                  refine exit_ ?_
                  refine tX ?_
                  obtain rfl := retE h
                  refine lX ?_
                  refine w_sub (env' := [(1, [.c (.box 0 0)]), (2, [.c (.box 1 0)]), (3, [.c (.pv (.int .i64 x2.1))]), (4, [.c (.pv (.int .i64 x3.1))])]) (sub_cons rfl (sub_cons rfl (sub_cons rfl (sub_cons rfl sub_nil)))) ?_
                  exact wkE (by kernel_rfl) (by kernel_rfl)
              · cases h
              · have h := elimR h
                refine bN ?_
                refine then_ ?_
                refine region_ ?_
                refine R tbok 3 [4, 1, 2, 3] [(4, [.c (.pv (.int .i64 (IntKind.i64.wrap (x3.1 + 1))))]), (1, [.c (.box 0 0)]), (2, [.c (.box 1 0)]), (3, [.c (.pv (.int .i64 x2.1))])] (by kernel_rfl) ?_
                refine ops_nil ?_
                obtain rfl := retE h
                refine lN ?_
                refine w_sub (env' := [(1, [.c (.box 0 0)]), (2, [.c (.box 1 0)]), (3, [.c (.pv (.int .i64 x2.1))]), (4, [.c (.pv (.int .i64 (IntKind.i64.wrap (x3.1 + 1))))])]) (sub_cons rfl (sub_cons rfl (sub_cons rfl (sub_cons rfl sub_nil)))) ?_
                exact wkE (by kernel_rfl) (by kernel_rfl)
            · have h := iteF h k6
              refine exit_ ?_
              refine tX ?_
              obtain rfl := retE h
              refine lX ?_
              refine w_sub (env' := [(1, [.c (.box 0 0)]), (2, [.c (.box 1 0)]), (3, [.c (.pv (.int .i64 x2.1))])]) (sub_cons rfl (sub_cons rfl (sub_cons rfl sub_nil))) ?_
              exact wkE (by kernel_rfl) (by kernel_rfl)
          · cases h
          · have h := elimR h
            refine bN ?_
            refine then_ ?_
            refine region_ ?_
            refine R tbok 3 [3, 1, 2] [(3, [.c (.pv (.int .i64 (IntKind.i64.wrap (x2.1 + 1))))]), (1, [.c (.box 0 0)]), (2, [.c (.box 1 0)])] (by kernel_rfl) ?_
            refine ops_nil ?_
            obtain rfl := retE h
            refine lN ?_
            refine w_sub (env' := [(1, [.c (.box 0 0)]), (2, [.c (.box 1 0)]), (3, [.c (.pv (.int .i64 (IntKind.i64.wrap (x2.1 + 1))))])]) (sub_cons rfl (sub_cons rfl (sub_cons rfl sub_nil))) ?_
            exact wkE (by kernel_rfl) (by kernel_rfl)
        · have h := iteF h k5
          refine exit_ ?_
          refine tX ?_
          obtain rfl := retE h
          refine lX ?_
          refine w_sub (env' := [(1, [.c (.box 0 0)]), (2, [.c (.box 1 0)])]) (sub_cons rfl (sub_cons rfl sub_nil)) ?_
          exact wkE (by kernel_rfl) (by kernel_rfl)
      · cases h
      · have h := elimR h
        refine then_ ?_
        refine seq_ ?_
        refine seq_ ?_
        refine region_ ?_
        refine R tbok 1 [6, 1, 2] [(6, [.c (.pv (.int .i64 0))]), (1, [.c (.box 0 0)]), (2, [.c (.box 1 0)])] (by kernel_rfl) ?_
        refine ops_nil ?_
        refine then_ ?_
        refine lp_ (Qr := RW Tryz.prog GG Tryz.f142 0 r_zone_Zone_close o_zone_Zone_close) (zone_Zone_close_l5 j2) (fun (x5 : Int) => (⟨77, 0, [(1, [.c (.box 0 0)]), (2, [.c (.box 1 0)]), (6, [.c (.pv (.int .i64 x5))])], [some (.box true 62 (bs (e_zone_Zone j2))), some (.box true 62 (bs (e_zone_Zone (zone_Zone.mk 0 false (arr (arr 0 []) [(arr 0 [0, 0, 0, 0, 0, 0, 0]), (arr 0 [0, 0, 0, 0, 0, 0, 0]), (arr 0 [0, 0, 0, 0, 0, 0, 0]), (arr 0 [0, 0, 0, 0, 0, 0, 0]), (arr 0 [0, 0, 0, 0, 0, 0, 0]), (arr 0 [0, 0, 0, 0, 0, 0, 0]), (arr 0 [0, 0, 0, 0, 0, 0, 0])])))))]⟩ : Sx)) (fun (j5 : Unit) => (⟨77, 0, [(1, [.c (.box 0 0)]), (2, [.c (.box 1 0)])], [some (.box true 62 (bs (e_zone_Zone j2))), some (.box true 62 (bs (e_zone_Zone (zone_Zone.mk 0 false (arr (arr 0 []) [(arr 0 [0, 0, 0, 0, 0, 0, 0]), (arr 0 [0, 0, 0, 0, 0, 0, 0]), (arr 0 [0, 0, 0, 0, 0, 0, 0]), (arr 0 [0, 0, 0, 0, 0, 0, 0]), (arr 0 [0, 0, 0, 0, 0, 0, 0]), (arr 0 [0, 0, 0, 0, 0, 0, 0]), (arr 0 [0, 0, 0, 0, 0, 0, 0])])))))]⟩ : Sx)) 0 RW.only h wT ?_ (fun x5 o h => ?_) (fun r h s' hs => ?_) (fun j5 h => ?_)
        · refine w_sub (env' := [(1, [.c (.box 0 0)]), (2, [.c (.box 1 0)]), (6, [.c (.pv (.int .i64 0))])]) (sub_cons rfl (sub_cons rfl (sub_cons rfl sub_nil))) ?_
          exact wkE (by kernel_rfl) (by kernel_rfl)
        · unfold zone_Zone_close_l5 at h
          refine seq_ ?_
          refine seq_ ?_
          refine region_ ?_
          refine R tbok 4 [63, 1, 2, 6] [(63, [.c (.pv (.bool (decide (x5 ≤ j2.N))))]), (1, [.c (.box 0 0)]), (2, [.c (.box 1 0)]), (6, [.c (.pv (.int .i64 x5))])] (by kernel_rfl) ?_
          refine ops_nil ?_
          refine then_ ?_
          refine cond_ (b := (decide (x5 ≤ j2.N))) rfl (fun k17 => ?_) (fun k17 => ?_)
          · have h := iteT h k17
            refine skip_ ?_
            refine then_ ?_
            refine seq_ ?_
            refine block_ ?_
            refine seq_ ?_
            refine region_ ?_
            refine R tbok 3 [68, 67, 66, 1, 2, 6] [(68, [.c (.box 0 2)]), (67, [.c (.pv (.int .i64 x5))]), (66, [.c (.pv (.int .i64 x5))]), (1, [.c (.box 0 0)]), (2, [.c (.box 1 0)]), (6, [.c (.pv (.int .i64 x5))])] (by kernel_rfl) ?_
            obtain ⟨v12, k18, h⟩ := bindE h
            refine L rfl rfl (ia_boxD rfl u60 ty59 rfl rfl k18) rfl ?_
            obtain ⟨v13, k19, h⟩ := bindE h
            refine L rfl rfl (ia_boxD rfl u59 ty3 rfl rfl k19) rfl ?_
            refine L rfl rfl (lt_load_box rfl ty3 rfl rfl (at2 (e := (PV.int .i64)) (D2 := j2.D) (pre := [.int .i64 j2.N, .bool j2.None]) (post := []) (n1 := 7) (n2 := 7) (by kernel_rfl) (inA_lt k18) (inA_lt k19))) rfl ?_
            refine R tbok 1 [72, 1, 2, 6] [(72, [.c (.pv (.bool (decide (((j2.D v12) v13) < 0))))]), (1, [.c (.box 0 0)]), (2, [.c (.box 1 0)]), (6, [.c (.pv (.int .i64 x5))])] (by kernel_rfl) ?_
            refine ops_nil ?_
            refine then_ ?_
            refine cond_ (b := (decide (((j2.D v12) v13) < 0))) rfl (fun k20 => ?_) (fun k20 => ?_)
            · have h := iteT h k20
              refine seq_ ?_
              refine region_ ?_
              refine R tbok 2 [74, 1, 2, 6] [(74, [.c (.pv (.int .i64 j2.N))]), (1, [.c (.box 0 0)]), (2, [.c (.box 1 0)]), (6, [.c (.pv (.int .i64 x5))])] (by kernel_rfl) ?_
              obtain ⟨v14, k21, h⟩ := bindE h
              refine C rfl rfl (fl_call rfl Tryz.call183 rfl (by kernel_rfl) (by kernel_rfl) (zone_none_meets k21)) rfl ?_
              refine S rfl rfl rfl ty62 (by decide) rfl rfl rfl rfl rfl (.all rfl) (.s .z) ?_
              refine ops_nil ?_
              refine then_ ?_
              refine ret_ ?_
              obtain rfl := retE h
              refine bR (tR (lR (rw_ (.cellA (ys := (bs (e_zone_Zone v14))) ty62 rfl rfl (by kernel_rfl) (by kernel_rfl) .nil) ?_)))
              refine w_none 0 .z ?_
              refine w_none 1 (.s .z) ?_
              refine w_cut 0 rfl rfl rfl rfl ?_
              exact wkE (by kernel_rfl) (by kernel_rfl)
            · have h := iteF h k20
              refine skip_ ?_
              refine bN ?_
              refine then_ ?_
              refine region_ ?_
              refine R tbok 3 [6, 1, 2] [(6, [.c (.pv (.int .i64 (IntKind.i64.wrap (x5 + 1))))]), (1, [.c (.box 0 0)]), (2, [.c (.box 1 0)])] (by kernel_rfl) ?_
              refine ops_nil ?_
              obtain rfl := retE h
              refine lN ?_
              refine w_sub (env' := [(1, [.c (.box 0 0)]), (2, [.c (.box 1 0)]), (6, [.c (.pv (.int .i64 (IntKind.i64.wrap (x5 + 1))))])]) (sub_cons rfl (sub_cons rfl (sub_cons rfl sub_nil))) ?_
              exact wkE (by kernel_rfl) (by kernel_rfl)
          · have h := iteF h k17
            refine exit_ ?_
            refine tX ?_
            obtain rfl := retE h
            refine lX ?_
            refine w_sub (env' := [(1, [.c (.box 0 0)]), (2, [.c (.box 1 0)])]) (sub_cons rfl (sub_cons rfl sub_nil)) ?_
            exact wkE (by kernel_rfl) (by kernel_rfl)
        · have h := elimL h
          obtain rfl := retE h
          exact (tR (rwr hs))
        · have h := elimR h
          refine then_ ?_
          refine seq_ ?_
          refine region_ ?_
          refine R tbok 1 [76, 2] [(76, [.agg (bs (e_zone_Zone j2))]), (2, [.c (.box 1 0)])] (by kernel_rfl) ?_
          refine S rfl rfl rfl ty62 (by decide) rfl rfl rfl rfl rfl (.all rfl) (.s .z) ?_
          refine ops_nil ?_
          refine then_ ?_
          refine ret_ ?_
          obtain rfl := retE h
          refine rwr (rw_ (.cellA (ys := (bs (e_zone_Zone j2))) ty62 rfl rfl (by kernel_rfl) (by kernel_rfl) .nil) ?_)
          refine w_none 0 .z ?_
          refine w_none 1 (.s .z) ?_
          refine w_cut 0 rfl rfl rfl rfl ?_
          exact wkE (by kernel_rfl) (by kernel_rfl)

theorem zone_Forget_meets {a0 : zone_Zone} {a1 : Int} {r : zone_Zone} (h : zone_Forget a0 a1 = some r) : MeetsV Tryz.prog GG 96 [.agg (bs (e_zone_Zone a0)), .c (.pv (.int .i64 a1))] [.agg (bs (e_zone_Zone r))] := by
  refine MeetsS.toV (meetsW_of (st0 := []) (N := 15) r_zone_Forget o_zone_Forget r Tryz.func96 rfl rfl rfl (by dsimp only [argEnv]) rfl ?_) rfl
  unfold zone_Forget at h
  refine seq_ ?_
  refine region_ ?_
  refine B rfl rfl (bir_box rfl rfl rfl) rfl rfl .z ?_
  refine B rfl rfl (bir_alloc rfl z62 rfl rfl) rfl rfl (.s .z) ?_
  refine ops_nil ?_
  refine then_ ?_
  refine seq_ ?_
  refine seq_ ?_
  refine region_ ?_
  refine R tbok 2 [6, 5, 4, 2, 1] [(6, [.c (.pv (.int .i64 a1))]), (5, [.agg (bs (e_zone_Zone a0))]), (4, [.c (.box 1 0)]), (2, [.c (.box 0 0)]), (1, [.c (.pv (.int .i64 a1))])] (by kernel_rfl) ?_
  obtain ⟨v1, k1, h⟩ := bindE h
  refine C rfl rfl (fl_call rfl Tryz.call138 rfl (by kernel_rfl) (by kernel_rfl) (zone_variable_meets k1)) rfl ?_
  refine R tbok 1 [8, 4, 2, 1] [(8, [.c (.pv (.bool (!v1)))]), (4, [.c (.box 1 0)]), (2, [.c (.box 0 0)]), (1, [.c (.pv (.int .i64 a1))])] (by kernel_rfl) ?_
  refine ops_nil ?_
  refine then_ ?_
  refine cond_ (b := (!v1)) rfl (fun k2 => ?_) (fun k2 => ?_)
  · have h := iteT h k2
    refine seq_ ?_
    refine region_ ?_
    refine R tbok 1 [9, 4, 2, 1] [(9, [.agg (bs (e_zone_Zone a0))]), (4, [.c (.box 1 0)]), (2, [.c (.box 0 0)]), (1, [.c (.pv (.int .i64 a1))])] (by kernel_rfl) ?_
    refine S rfl rfl rfl ty62 (by decide) rfl rfl rfl rfl rfl (.all rfl) (.s .z) ?_
    refine ops_nil ?_
    refine then_ ?_
    refine ret_ ?_
    obtain rfl := retE h
    refine tR (rwr (rw_ (.cellA (ys := (bs (e_zone_Zone a0))) ty62 rfl rfl (by kernel_rfl) (by kernel_rfl) .nil) ?_))
    refine w_none 0 .z ?_
    refine w_none 1 (.s .z) ?_
    refine w_cut 0 rfl rfl rfl rfl ?_
    exact wkE (by kernel_rfl) (by kernel_rfl)
  · have h := iteF h k2
    refine skip_ ?_
    refine then_ ?_
    refine seq_ ?_
    refine region_ ?_
    refine R tbok 2 [11, 4, 2] [(11, [.c (.pv (.int .i64 (IntKind.i64.wrap (a1 + 1))))]), (4, [.c (.box 1 0)]), (2, [.c (.box 0 0)])] (by kernel_rfl) ?_
    obtain ⟨v2, k3, h⟩ := bindE h
    refine callS (env' := [(11, [.c (.pv (.int .i64 (IntKind.i64.wrap (a1 + 1))))]), (4, [.c (.box 1 0)]), (2, [.c (.box 0 0)])]) (argsX' := []) (st' := [some (.box true 62 (bs (e_zone_Zone v2))), some (.box true 62 (bs (e_zone_Zone (zone_Zone.mk 0 false (arr (arr 0 []) [(arr 0 [0, 0, 0, 0, 0, 0, 0]), (arr 0 [0, 0, 0, 0, 0, 0, 0]), (arr 0 [0, 0, 0, 0, 0, 0, 0]), (arr 0 [0, 0, 0, 0, 0, 0, 0]), (arr 0 [0, 0, 0, 0, 0, 0, 0]), (arr 0 [0, 0, 0, 0, 0, 0, 0]), (arr 0 [0, 0, 0, 0, 0, 0, 0])])))))]) [0] [] rfl rfl rfl rfl Tryz.call141 rfl rfl (by kernel_rfl) (by kernel_rfl) (zone_Zone_forget_meets k3) (by kernel_rfl) (by kernel_rfl) (by kernel_rfl) ?_
    refine ops_nil ?_
    refine then_ ?_
    refine seq_ ?_
    refine region_ ?_
    refine R tbok 1 [13, 4] [(13, [.agg (bs (e_zone_Zone v2))]), (4, [.c (.box 1 0)])] (by kernel_rfl) ?_
    obtain ⟨v3, k4, h⟩ := bindE h
    refine C rfl rfl (fl_call rfl Tryz.call142 rfl (by kernel_rfl) (by kernel_rfl) (zone_Zone_close_meets k4)) rfl ?_
    refine S rfl rfl rfl ty62 (by decide) rfl rfl rfl rfl rfl (.all rfl) (.s .z) ?_
    refine ops_nil ?_
    refine then_ ?_
    refine ret_ ?_
    obtain rfl := retE h
    refine rwr (rw_ (.cellA (ys := (bs (e_zone_Zone v3))) ty62 rfl rfl (by kernel_rfl) (by kernel_rfl) .nil) ?_)
    refine w_none 0 .z ?_
    refine w_none 1 (.s .z) ?_
    refine w_cut 0 rfl rfl rfl rfl ?_
    exact wkE (by kernel_rfl) (by kernel_rfl)

theorem num_None_meets {a0 : Int} {r : num_Num} (h : num_None a0 = some r) : MeetsV Tryz.prog GG 88 [.c (.pv (.int .i64 a0))] [.agg (bs (e_num_Num r))] := by
  refine MeetsS.toV (meetsW_of (st0 := []) (N := 8) r_num_None o_num_None r Tryz.func88 rfl rfl rfl (by dsimp only [argEnv]) rfl ?_) rfl
  unfold num_None at h
  refine seq_ ?_
  refine region_ ?_
  refine B rfl rfl (bir_alloc rfl z64 rfl rfl) rfl rfl .z ?_
  refine ops_nil ?_
  refine then_ ?_
  refine seq_ ?_
  refine region_ ?_
  refine R tbok 1 [3, 2] [(3, [.c (.pv (.int .i64 a0))]), (2, [.c (.box 0 0)])] (by kernel_rfl) ?_
  refine L rfl rfl (lt_max2 rfl rfl rfl) rfl ?_
  refine L rfl rfl (lt_min2 rfl rfl rfl) rfl ?_
  refine L rfl rfl (lt_build (cs := (bs (e_zone_Zone (zone_Zone.mk (min (max a0 0) 6) true (arr (arr 0 []) [(arr 0 [0, 0, 0, 0, 0, 0, 0]), (arr 0 [0, 0, 0, 0, 0, 0, 0]), (arr 0 [0, 0, 0, 0, 0, 0, 0]), (arr 0 [0, 0, 0, 0, 0, 0, 0]), (arr 0 [0, 0, 0, 0, 0, 0, 0]), (arr 0 [0, 0, 0, 0, 0, 0, 0]), (arr 0 [0, 0, 0, 0, 0, 0, 0])]))))) rfl st62 rfl (by kernel_rfl)) rfl ?_
  obtain ⟨v1, k1, h⟩ := bindE h
  refine C rfl rfl (fl_call rfl Tryz.call49 rfl (by kernel_rfl) (by kernel_rfl) (num_of_meets k1)) rfl ?_
  refine S rfl rfl rfl ty64 (by decide) rfl rfl rfl rfl rfl (.all rfl) .z ?_
  refine ops_nil ?_
  refine then_ ?_
  refine ret_ ?_
  obtain rfl := retE h
  refine rwr (rw_ (.cellA (ys := (bs (e_num_Num v1))) ty64 rfl rfl (by kernel_rfl) (by kernel_rfl) .nil) ?_)
  refine w_none 0 .z ?_
  refine w_cut 0 rfl rfl rfl rfl ?_
  exact wkE (by kernel_rfl) (by kernel_rfl)

theorem zone_orNought_meets {a0 : zone_Zone} {a1 : Int} {r : Bool} (h : zone_orNought a0 a1 = some r) : MeetsV Tryz.prog GG 181 [.agg (bs (e_zone_Zone a0)), .c (.pv (.int .i64 a1))] [.c (.pv (.bool r))] := by
  refine MeetsS.toV (meetsW_of (st0 := []) (N := 22) r_zone_orNought o_zone_orNought r Tryz.func181 rfl rfl rfl (by dsimp only [argEnv]) rfl ?_) rfl
  unfold zone_orNought at h
  refine seq_ ?_
  refine region_ ?_
  refine B rfl rfl (bir_box rfl rfl rfl) rfl rfl .z ?_
  refine R tbok 1 [4, 2, 1] [(4, [.c (.pv (.bool false))]), (2, [.c (.box 0 0)]), (1, [.c (.pv (.int .i64 a1))])] (by kernel_rfl) ?_
  refine ops_nil ?_
  refine then_ ?_
  refine seq_ ?_
  refine jn_ (fun (j1 : Bool) => (⟨22, 0, [(4, [.c (.pv (.bool j1))])], []⟩ : Sx)) h wT (fun o h => ?_) (fun j1 h => ?_)
  · refine region_ ?_
    refine R tbok 3 [7, 4, 2, 1] [(7, [.c (.pv (.bool (a1 == (-1))))]), (4, [.c (.pv (.bool false))]), (2, [.c (.box 0 0)]), (1, [.c (.pv (.int .i64 a1))])] (by kernel_rfl) ?_
    refine (tf (a1 == (-1))).elim (fun k1 => ?_) (fun k1 => ?_)
    · have h := iteT h k1
      refine Lg rfl rfl rfl k1 rfl (lt_fa_box rfl f62_0 ty3 (by decide) rfl) rfl ?_
      refine Lg rfl rfl rfl k1 rfl (lt_load_box rfl ty3 rfl rfl rfl) rfl ?_
      obtain ⟨v1, k2, h⟩ := bindE h
      refine Hg rfl rfl rfl k1 rfl rfl (op_fl rfl rfl (fl_call rfl Tryz.call116 rfl (by kernel_rfl) (by kernel_rfl) (zone_count_meets k2)) ?_)
      refine L rfl rfl (lt_pickT rfl rfl k1 rfl) rfl ?_
      refine R tbok 1 [12, 4, 2, 1] [(12, [.c (.pv (.bool v1))]), (4, [.c (.pv (.bool false))]), (2, [.c (.box 0 0)]), (1, [.c (.pv (.int .i64 a1))])] (by kernel_rfl) ?_
      refine (tf v1).elim (fun k3 => ?_) (fun k3 => ?_)
      · have h := iteT h k3
        refine Lg rfl rfl rfl k3 rfl (lt_fa_box rfl f62_1 ty4 (by decide) rfl) rfl ?_
        refine Lg rfl rfl rfl k3 rfl (lt_load_box rfl ty4 rfl rfl rfl) rfl ?_
        refine Lg rfl rfl rfl k3 rfl (lt_not rfl rfl) rfl ?_
        refine L rfl rfl (lt_pickT rfl rfl k3 rfl) rfl ?_
        refine R tbok 1 [17, 4, 2, 1] [(17, [.c (.pv (.bool (!a0.None)))]), (4, [.c (.pv (.bool false))]), (2, [.c (.box 0 0)]), (1, [.c (.pv (.int .i64 a1))])] (by kernel_rfl) ?_
        refine (tf (!a0.None)).elim (fun k4 => ?_) (fun k4 => ?_)
        · have h := iteT h k4
          refine Ls0 rfl rfl rfl k4 rfl rfl ?_
          refine Ls0 rfl rfl rfl k4 rfl rfl ?_
          refine Ls0 rfl rfl rfl k4 rfl rfl ?_
          refine L rfl rfl (lt_pickT rfl rfl k4 rfl) rfl ?_
          refine R tbok 1 [4] [(4, [.c (.pv (.bool true))])] (by kernel_rfl) ?_
          refine ops_nil ?_
          obtain rfl := retE h
          refine mN ?_
          refine w_cut 0 rfl rfl rfl rfl ?_
          exact wkE (by kernel_rfl) (by kernel_rfl)
        · have h := iteF h k4
          refine Lg rfl rfl rfl k4 rfl (lt_load_boxA (ys := (bs (e_zone_Zone a0))) rfl ty62 rfl rfl (by kernel_rfl) (by kernel_rfl)) rfl ?_
          refine Lg rfl rfl rfl k4 rfl (lt_move rfl rfl) rfl ?_
          obtain ⟨v2, k5, h⟩ := bindE h
          refine Hg rfl rfl rfl k4 rfl rfl (op_fl rfl rfl (fl_call rfl Tryz.call138 rfl (by kernel_rfl) (by kernel_rfl) (zone_variable_meets k5)) ?_)
          refine L rfl rfl (lt_pickF rfl rfl k4 rfl) rfl ?_
          refine R tbok 1 [4] [(4, [.c (.pv (.bool v2))])] (by kernel_rfl) ?_
          refine ops_nil ?_
          obtain rfl := retE h
          refine mN ?_
          refine w_cut 0 rfl rfl rfl rfl ?_
          exact wkE (by kernel_rfl) (by kernel_rfl)
      · have h := iteF h k3
        refine Ls0 rfl rfl rfl k3 rfl rfl ?_
        refine Ls0 rfl rfl rfl k3 rfl rfl ?_
        refine Ls0 rfl rfl rfl k3 rfl rfl ?_
        refine L rfl rfl (lt_pickF rfl rfl k3 rfl) rfl ?_
        refine R tbok 1 [17, 4, 2, 1] [(17, [.c (.pv (.bool false))]), (4, [.c (.pv (.bool false))]), (2, [.c (.box 0 0)]), (1, [.c (.pv (.int .i64 a1))])] (by kernel_rfl) ?_
        refine Lg rfl rfl rfl rfl rfl (lt_load_boxA (ys := (bs (e_zone_Zone a0))) rfl ty62 rfl rfl (by kernel_rfl) (by kernel_rfl)) rfl ?_
        refine Lg rfl rfl rfl rfl rfl (lt_move rfl rfl) rfl ?_
        obtain ⟨v3, k6, h⟩ := bindE h
        refine Hg rfl rfl rfl rfl rfl rfl (op_fl rfl rfl (fl_call rfl Tryz.call138 rfl (by kernel_rfl) (by kernel_rfl) (zone_variable_meets k6)) ?_)
        refine L rfl rfl (lt_pickF rfl rfl rfl rfl) rfl ?_
        refine R tbok 1 [4] [(4, [.c (.pv (.bool v3))])] (by kernel_rfl) ?_
        refine ops_nil ?_
        obtain rfl := retE h
        refine mN ?_
        refine w_cut 0 rfl rfl rfl rfl ?_
        exact wkE (by kernel_rfl) (by kernel_rfl)
    · have h := iteF h k1
      refine Ls0 rfl rfl rfl k1 rfl rfl ?_
      refine Ls0 rfl rfl rfl k1 rfl rfl ?_
      refine Ls0 rfl rfl rfl k1 rfl rfl ?_
      refine L rfl rfl (lt_pickF rfl rfl k1 rfl) rfl ?_
      refine R tbok 1 [12, 4, 2, 1] [(12, [.c (.pv (.bool false))]), (4, [.c (.pv (.bool false))]), (2, [.c (.box 0 0)]), (1, [.c (.pv (.int .i64 a1))])] (by kernel_rfl) ?_
      refine Ls0 rfl rfl rfl rfl rfl rfl ?_
      refine Ls0 rfl rfl rfl rfl rfl rfl ?_
      refine Ls0 rfl rfl rfl rfl rfl rfl ?_
      refine L rfl rfl (lt_pickF rfl rfl rfl rfl) rfl ?_
      refine R tbok 1 [17, 4, 2, 1] [(17, [.c (.pv (.bool false))]), (4, [.c (.pv (.bool false))]), (2, [.c (.box 0 0)]), (1, [.c (.pv (.int .i64 a1))])] (by kernel_rfl) ?_
      refine Lg rfl rfl rfl rfl rfl (lt_load_boxA (ys := (bs (e_zone_Zone a0))) rfl ty62 rfl rfl (by kernel_rfl) (by kernel_rfl)) rfl ?_
      refine Lg rfl rfl rfl rfl rfl (lt_move rfl rfl) rfl ?_
      obtain ⟨v4, k7, h⟩ := bindE h
      refine Hg rfl rfl rfl rfl rfl rfl (op_fl rfl rfl (fl_call rfl Tryz.call138 rfl (by kernel_rfl) (by kernel_rfl) (zone_variable_meets k7)) ?_)
      refine L rfl rfl (lt_pickF rfl rfl rfl rfl) rfl ?_
      refine R tbok 1 [4] [(4, [.c (.pv (.bool v4))])] (by kernel_rfl) ?_
      refine ops_nil ?_
      obtain rfl := retE h
      refine mN ?_
      refine w_cut 0 rfl rfl rfl rfl ?_
      exact wkE (by kernel_rfl) (by kernel_rfl)
  · refine then_ ?_
    refine ret_ ?_
    obtain rfl := retE h
    refine rwr (rw_ (.tmp rfl .nil) ?_)
    exact wkE (by kernel_rfl) (by kernel_rfl)

theorem zone_Bound_meets {a0 : zone_Zone} {a1 : Int} {a2 : Int} {a3 : Int} {r : zone_Zone} (h : zone_Bound a0 a1 a2 a3 = some r) : MeetsV Tryz.prog GG 140 [.agg (bs (e_zone_Zone a0)), .c (.pv (.int .i64 a1)), .c (.pv (.int .i64 a2)), .c (.pv (.int .i64 a3))] [.agg (bs (e_zone_Zone r))] := by
  refine MeetsS.toV (meetsW_of (st0 := []) (N := 40) r_zone_Bound o_zone_Bound r Tryz.func140 rfl rfl rfl (by dsimp only [argEnv]) rfl ?_) rfl
  unfold zone_Bound at h
  refine seq_ ?_
  refine region_ ?_
  refine B rfl rfl (bir_box rfl rfl rfl) rfl rfl .z ?_
  refine B rfl rfl (bir_alloc rfl z62 rfl rfl) rfl rfl (.s .z) ?_
  refine ops_nil ?_
  refine then_ ?_
  refine seq_ ?_
  refine seq_ ?_
  refine jn_ (fun (j1 : Bool) => (⟨40, 0, [(1, [.c (.pv (.int .i64 a1))]), (2, [.c (.pv (.int .i64 a2))]), (3, [.c (.pv (.int .i64 a3))]), (4, [.c (.box 0 0)]), (8, [.c (.box 1 0)]), (18, [.c (.pv (.bool j1))])], [some (.box true 62 (bs (e_zone_Zone a0))), some (.box true 62 (bs (e_zone_Zone (zone_Zone.mk 0 false (arr (arr 0 []) [(arr 0 [0, 0, 0, 0, 0, 0, 0]), (arr 0 [0, 0, 0, 0, 0, 0, 0]), (arr 0 [0, 0, 0, 0, 0, 0, 0]), (arr 0 [0, 0, 0, 0, 0, 0, 0]), (arr 0 [0, 0, 0, 0, 0, 0, 0]), (arr 0 [0, 0, 0, 0, 0, 0, 0]), (arr 0 [0, 0, 0, 0, 0, 0, 0])])))))]⟩ : Sx)) h wT (fun o h => ?_) (fun j1 h => ?_)
  · refine region_ ?_
    refine R tbok 2 [10, 9, 8, 4, 1, 2, 3] [(10, [.c (.pv (.int .i64 a1))]), (9, [.agg (bs (e_zone_Zone a0))]), (8, [.c (.box 1 0)]), (4, [.c (.box 0 0)]), (1, [.c (.pv (.int .i64 a1))]), (2, [.c (.pv (.int .i64 a2))]), (3, [.c (.pv (.int .i64 a3))])] (by kernel_rfl) ?_
    obtain ⟨v1, k1, h⟩ := bindE h
    refine C rfl rfl (fl_call rfl Tryz.call181 rfl (by kernel_rfl) (by kernel_rfl) (zone_orNought_meets k1)) rfl ?_
    refine R tbok 2 [13, 8, 4, 1, 2, 3] [(13, [.c (.pv (.bool (!v1)))]), (8, [.c (.box 1 0)]), (4, [.c (.box 0 0)]), (1, [.c (.pv (.int .i64 a1))]), (2, [.c (.pv (.int .i64 a2))]), (3, [.c (.pv (.int .i64 a3))])] (by kernel_rfl) ?_
    refine (tf (!v1)).elim (fun k2 => ?_) (fun k2 => ?_)
    · have h := iteT h k2
      refine Ls0 rfl rfl rfl k2 rfl rfl ?_
      refine Ls0 rfl rfl rfl k2 rfl rfl ?_
      refine Ls0 rfl rfl rfl k2 rfl rfl ?_
      refine Ls0 rfl rfl rfl k2 rfl rfl ?_
      refine L rfl rfl (lt_pickT rfl rfl k2 rfl) rfl ?_
      refine ops_nil ?_
      obtain rfl := retE h
      refine mN ?_
      refine w_sub (env' := [(1, [.c (.pv (.int .i64 a1))]), (2, [.c (.pv (.int .i64 a2))]), (3, [.c (.pv (.int .i64 a3))]), (4, [.c (.box 0 0)]), (8, [.c (.box 1 0)]), (18, [.c (.pv (.bool true))])]) (sub_cons rfl (sub_cons rfl (sub_cons rfl (sub_cons rfl (sub_cons rfl (sub_cons rfl sub_nil)))))) ?_
      exact wkE (by kernel_rfl) (by kernel_rfl)
    · have h := iteF h k2
      refine Lg rfl rfl rfl k2 rfl (lt_load_boxA (ys := (bs (e_zone_Zone a0))) rfl ty62 rfl rfl (by kernel_rfl) (by kernel_rfl)) rfl ?_
      refine Lg rfl rfl rfl k2 rfl (lt_move rfl rfl) rfl ?_
      obtain ⟨v2, k3, h⟩ := bindE h
      refine Hg rfl rfl rfl k2 rfl rfl (op_fl rfl rfl (fl_call rfl Tryz.call181 rfl (by kernel_rfl) (by kernel_rfl) (zone_orNought_meets k3)) ?_)
      refine Lg rfl rfl rfl k2 rfl (lt_not rfl rfl) rfl ?_
      refine L rfl rfl (lt_pickF rfl rfl k2 rfl) rfl ?_
      refine ops_nil ?_
      obtain rfl := retE h
      refine mN ?_
      refine w_sub (env' := [(1, [.c (.pv (.int .i64 a1))]), (2, [.c (.pv (.int .i64 a2))]), (3, [.c (.pv (.int .i64 a3))]), (4, [.c (.box 0 0)]), (8, [.c (.box 1 0)]), (18, [.c (.pv (.bool (!v2)))])]) (sub_cons rfl (sub_cons rfl (sub_cons rfl (sub_cons rfl (sub_cons rfl (sub_cons rfl sub_nil)))))) ?_
      exact wkE (by kernel_rfl) (by kernel_rfl)
  · refine then_ ?_
    refine cond_ (b := j1) rfl (fun k4 => ?_) (fun k4 => ?_)
    · have h := iteT h k4
      refine seq_ ?_
      refine region_ ?_
      refine R tbok 1 [19, 1, 2, 3, 4, 8] [(19, [.agg (bs (e_zone_Zone a0))]), (1, [.c (.pv (.int .i64 a1))]), (2, [.c (.pv (.int .i64 a2))]), (3, [.c (.pv (.int .i64 a3))]), (4, [.c (.box 0 0)]), (8, [.c (.box 1 0)])] (by kernel_rfl) ?_
      refine S rfl rfl rfl ty62 (by decide) rfl rfl rfl rfl rfl (.all rfl) (.s .z) ?_
      refine ops_nil ?_
      refine then_ ?_
      refine ret_ ?_
      obtain rfl := retE h
      refine tR (rwr (rw_ (.cellA (ys := (bs (e_zone_Zone a0))) ty62 rfl rfl (by kernel_rfl) (by kernel_rfl) .nil) ?_))
      refine w_none 0 .z ?_
      refine w_none 1 (.s .z) ?_
      refine w_cut 0 rfl rfl rfl rfl ?_
      exact wkE (by kernel_rfl) (by kernel_rfl)
    · have h := iteF h k4
      refine skip_ ?_
      refine then_ ?_
      refine seq_ ?_
      refine drawn_ mixed ?_
      refine dl (t := 20) 0 [.c (.pv (.int .i64 a1))] rfl ?_
      refine dl (t := 21) 1 [.c (.pv (.int .i64 (IntKind.i64.wrap (a1 + 1))))] rfl ?_
      refine dl (t := 22) 2 [.c (.pv (.int .i64 a2))] rfl ?_
      refine dl (t := 23) 3 [.c (.pv (.int .i64 (IntKind.i64.wrap (a2 + 1))))] rfl ?_
      refine dl (t := 24) 4 [.c (.pv (.int .i64 a1))] rfl ?_
      refine dl (t := 25) 5 [.c (.pv (.int .i64 (IntKind.i64.wrap (a1 + 1))))] rfl ?_
      refine dl (t := 26) 6 [.c (.pv (.int .i64 a2))] rfl ?_
      refine dl (t := 27) 7 [.c (.pv (.int .i64 (IntKind.i64.wrap (a2 + 1))))] rfl ?_
      refine dl (t := 28) 8 [.c (.box 0 2)] rfl ?_
      obtain ⟨v3, k5, h⟩ := bindE h
      refine dl (t := 29) 9 [.c (.box 0 (2 + v3 * 7))] rfl ?_
      obtain ⟨v4, k6, h⟩ := bindE h
      refine dl (t := 30) 10 [.c (.box 0 (2 + v3 * 7 + v4 * 1))] rfl ?_
      refine dl (t := 31) 11 [.c (.pv (.int .i64 ((a0.D v3) v4)))] rfl ?_
      refine dl (t := 32) 12 [.c (.pv (.int .i64 a3))] rfl ?_
      refine dl (t := 33) 13 [.c (.pv (.int .i64 (max a3 (-1099511627776))))] rfl ?_
      refine dl (t := 34) 14 [.c (.pv (.int .i64 (min ((a0.D v3) v4) (max a3 (-1099511627776)))))] rfl ?_
      refine dl (t := 35) 15 [.c (.box 0 2)] rfl ?_
      obtain ⟨v5, k7, h⟩ := bindE h
      refine dl (t := 36) 16 [.c (.box 0 (2 + v5 * 7))] rfl ?_
      obtain ⟨v6, k8, h⟩ := bindE h
      refine dl (t := 37) 17 [.c (.box 0 (2 + v5 * 7 + v6 * 1))] rfl ?_
      obtain ⟨v7, k9, h⟩ := bindE h
      refine d_storeG (cs' := [.pv (.int .i64 a0.N), .pv (.bool a0.None), .pv (.int .i64 ((v7 0) 0)), .pv (.int .i64 ((v7 0) 1)), .pv (.int .i64 ((v7 0) 2)), .pv (.int .i64 ((v7 0) 3)), .pv (.int .i64 ((v7 0) 4)), .pv (.int .i64 ((v7 0) 5)), .pv (.int .i64 ((v7 0) 6)), .pv (.int .i64 ((v7 1) 0)), .pv (.int .i64 ((v7 1) 1)), .pv (.int .i64 ((v7 1) 2)), .pv (.int .i64 ((v7 1) 3)), .pv (.int .i64 ((v7 1) 4)), .pv (.int .i64 ((v7 1) 5)), .pv (.int .i64 ((v7 1) 6)), .pv (.int .i64 ((v7 2) 0)), .pv (.int .i64 ((v7 2) 1)), .pv (.int .i64 ((v7 2) 2)), .pv (.int .i64 ((v7 2) 3)), .pv (.int .i64 ((v7 2) 4)), .pv (.int .i64 ((v7 2) 5)), .pv (.int .i64 ((v7 2) 6)), .pv (.int .i64 ((v7 3) 0)), .pv (.int .i64 ((v7 3) 1)), .pv (.int .i64 ((v7 3) 2)), .pv (.int .i64 ((v7 3) 3)), .pv (.int .i64 ((v7 3) 4)), .pv (.int .i64 ((v7 3) 5)), .pv (.int .i64 ((v7 3) 6)), .pv (.int .i64 ((v7 4) 0)), .pv (.int .i64 ((v7 4) 1)), .pv (.int .i64 ((v7 4) 2)), .pv (.int .i64 ((v7 4) 3)), .pv (.int .i64 ((v7 4) 4)), .pv (.int .i64 ((v7 4) 5)), .pv (.int .i64 ((v7 4) 6)), .pv (.int .i64 ((v7 5) 0)), .pv (.int .i64 ((v7 5) 1)), .pv (.int .i64 ((v7 5) 2)), .pv (.int .i64 ((v7 5) 3)), .pv (.int .i64 ((v7 5) 4)), .pv (.int .i64 ((v7 5) 5)), .pv (.int .i64 ((v7 5) 6)), .pv (.int .i64 ((v7 6) 0)), .pv (.int .i64 ((v7 6) 1)), .pv (.int .i64 ((v7 6) 2)), .pv (.int .i64 ((v7 6) 3)), .pv (.int .i64 ((v7 6) 4)), .pv (.int .i64 ((v7 6) 5)), .pv (.int .i64 ((v7 6) 6))]) (wm [0, 1, 0, 4, 0, 16, 0, 64, 0, 304, 1008, 2032, 0, 4096, 16368, 0, 32771, 131071, 262143]) 18 rfl (by kernel_rfl) (by kernel_rfl) (by kernel_rfl) (by kernel_rfl) (by kernel_rfl) (gi0 rfl) (oL [] rfl (by kernel_rfl) (fl_lt (ia_boxD rfl u59 ty3 rfl rfl k8)) (oL [] rfl (by kernel_rfl) (fl_lt (ia_boxD rfl u60 ty59 rfl rfl k7)) (oE tbok [] 1 (by kernel_rfl) (oL [] rfl (by kernel_rfl) (fl_lt (lt_min2 rfl rfl rfl)) (oL [] rfl (by kernel_rfl) (fl_lt (lt_max2 rfl rfl rfl)) (oE tbok [] 1 (by kernel_rfl) (oL [] rfl (by kernel_rfl) (fl_lt (lt_load_box rfl ty3 rfl rfl (at2 (e := (PV.int .i64)) (D2 := a0.D) (pre := [.int .i64 a0.N, .bool a0.None]) (post := []) (n1 := 7) (n2 := 7) (by kernel_rfl) (inA_lt k5) (inA_lt k6)))) (oL [] rfl (by kernel_rfl) (fl_lt (ia_boxD rfl u59 ty3 rfl rfl k6)) (oL [] rfl (by kernel_rfl) (fl_lt (ia_boxD rfl u60 ty59 rfl rfl k5)) (oE tbok [] 9 (by kernel_rfl) trivial)))))))))) rfl rfl ty3 rfl rfl rfl rfl rfl (fit2 (e := (PV.int .i64)) (D2 := a0.D) (pre := [.int .i64 a0.N, .bool a0.None]) (post := []) (n1 := 7) (n2 := 7) (by kernel_rfl) (inA_lt k7) (inA_lt k8)) (put2 (e := (PV.int .i64)) (D2 := a0.D) (pre := [.int .i64 a0.N, .bool a0.None]) (post := []) (n1 := 7) (n2 := 7) (by kernel_rfl) (inA_lt k7) (inA_lt k8) (retE k9) (by kernel_rfl)) (SetAt.eq .z) ?_
      refine d_endS (env2 := [(4, [.c (.box 0 0)]), (8, [.c (.box 1 0)])]) (wm [0, 1, 0, 4, 0, 16, 0, 64, 0, 304, 1008, 2032, 0, 4096, 16368, 0, 32771, 131071, 262143]) (by kernel_rfl) (by kernel_rfl) (by kernel_rfl) (oN 19 (by kernel_rfl) trivial) (sub_cons rfl (sub_cons rfl sub_nil)) wT ?_
      refine then_ ?_
      refine seq_ ?_
      refine region_ ?_
      refine R tbok 1 [38, 8] [(38, [.agg (bs (e_zone_Zone (zone_Zone.mk a0.N a0.None v7)))]), (8, [.c (.box 1 0)])] (by kernel_rfl) ?_
      obtain ⟨v8, k10, h⟩ := bindE h
      refine C rfl rfl (fl_call rfl Tryz.call142 rfl (by kernel_rfl) (by kernel_rfl) (zone_Zone_close_meets k10)) rfl ?_
      refine S rfl rfl rfl ty62 (by decide) rfl rfl rfl rfl rfl (.all rfl) (.s .z) ?_
      refine ops_nil ?_
      refine then_ ?_
      refine ret_ ?_
      obtain rfl := retE h
      refine rwr (rw_ (.cellA (ys := (bs (e_zone_Zone v8))) ty62 rfl rfl (by kernel_rfl) (by kernel_rfl) .nil) ?_)
      refine w_none 0 .z ?_
      refine w_none 1 (.s .z) ?_
      refine w_cut 0 rfl rfl rfl rfl ?_
      exact wkE (by kernel_rfl) (by kernel_rfl)

theorem num_held_meets {a0 : zone_Zone} {a1 : Int} {a2 : itv_Itv} {r : zone_Zone} (h : num_held a0 a1 a2 = some r) : MeetsV Tryz.prog GG 95 [.agg (bs (e_zone_Zone a0)), .c (.pv (.int .i64 a1)), .agg [.pv (.int .i64 a2.Lo), .pv (.int .i64 a2.Hi)]] [.agg (bs (e_zone_Zone r))] := by
  refine MeetsS.toV (meetsW_of (st0 := []) (N := 34) r_num_held o_num_held r Tryz.func95 rfl rfl rfl (by dsimp only [argEnv]) rfl ?_) rfl
  unfold num_held at h
  refine seq_ ?_
  refine region_ ?_
  refine B rfl rfl (bir_box rfl rfl rfl) rfl rfl .z ?_
  refine B rfl rfl (bir_box rfl rfl rfl) rfl rfl (.s .z) ?_
  refine B rfl rfl (bir_alloc rfl z62 rfl rfl) rfl rfl (.s (.s .z)) ?_
  refine ops_nil ?_
  refine then_ ?_
  refine seq_ ?_
  refine block_ ?_
  refine seq_ ?_
  refine jn_ (fun (j1 : Bool) => (⟨34, 0, [(1, [.c (.pv (.int .i64 a1))]), (3, [.c (.box 0 0)]), (5, [.c (.box 1 0)]), (6, [.c (.box 2 0)]), (7, [.c (.pv (.bool j1))])], [some (.box true 62 (bs (e_zone_Zone a0))), some (.box true 72 [.pv (.int .i64 a2.Lo), .pv (.int .i64 a2.Hi)]), some (.box true 62 (bs (e_zone_Zone (zone_Zone.mk 0 false (arr (arr 0 []) [(arr 0 [0, 0, 0, 0, 0, 0, 0]), (arr 0 [0, 0, 0, 0, 0, 0, 0]), (arr 0 [0, 0, 0, 0, 0, 0, 0]), (arr 0 [0, 0, 0, 0, 0, 0, 0]), (arr 0 [0, 0, 0, 0, 0, 0, 0]), (arr 0 [0, 0, 0, 0, 0, 0, 0]), (arr 0 [0, 0, 0, 0, 0, 0, 0])])))))]⟩ : Sx)) h wT (fun o h => ?_) (fun j1 h => ?_)
  · refine region_ ?_
    refine R tbok 3 [10, 6, 5, 3, 1] [(10, [.c (.pv (.bool (decide (a1 < 0))))]), (6, [.c (.box 2 0)]), (5, [.c (.box 1 0)]), (3, [.c (.box 0 0)]), (1, [.c (.pv (.int .i64 a1))])] (by kernel_rfl) ?_
    refine (tf (decide (a1 < 0))).elim (fun k1 => ?_) (fun k1 => ?_)
    · have h := iteT h k1
      refine Ls0 rfl rfl rfl k1 rfl rfl ?_
      refine Ls0 rfl rfl rfl k1 rfl rfl ?_
      refine Ls0 rfl rfl rfl k1 rfl rfl ?_
      refine Ls0 rfl rfl rfl k1 rfl rfl ?_
      refine L rfl rfl (lt_pickT rfl rfl k1 rfl) rfl ?_
      refine R tbok 1 [7, 6, 5, 3, 1] [(7, [.c (.pv (.bool true))]), (6, [.c (.box 2 0)]), (5, [.c (.box 1 0)]), (3, [.c (.box 0 0)]), (1, [.c (.pv (.int .i64 a1))])] (by kernel_rfl) ?_
      refine ops_nil ?_
      obtain rfl := retE h
      refine mN ?_
      refine w_sub (env' := [(1, [.c (.pv (.int .i64 a1))]), (3, [.c (.box 0 0)]), (5, [.c (.box 1 0)]), (6, [.c (.box 2 0)]), (7, [.c (.pv (.bool true))])]) (sub_cons rfl (sub_cons rfl (sub_cons rfl (sub_cons rfl (sub_cons rfl sub_nil))))) ?_
      exact wkE (by kernel_rfl) (by kernel_rfl)
    · have h := iteF h k1
      refine Lg rfl rfl rfl k1 rfl (lt_move rfl rfl) rfl ?_
      refine Lg rfl rfl rfl k1 rfl (lt_fa_box rfl f62_0 ty3 (by decide) rfl) rfl ?_
      refine Lg rfl rfl rfl k1 rfl (lt_load_box rfl ty3 rfl rfl rfl) rfl ?_
      refine Lg rfl rfl rfl k1 rfl (lt_int rfl rfl rfl rfl) rfl ?_
      refine L rfl rfl (lt_pickF rfl rfl k1 rfl) rfl ?_
      refine R tbok 1 [7, 6, 5, 3, 1] [(7, [.c (.pv (.bool (decide (a1 ≥ a0.N))))]), (6, [.c (.box 2 0)]), (5, [.c (.box 1 0)]), (3, [.c (.box 0 0)]), (1, [.c (.pv (.int .i64 a1))])] (by kernel_rfl) ?_
      refine ops_nil ?_
      obtain rfl := retE h
      refine mN ?_
      refine w_sub (env' := [(1, [.c (.pv (.int .i64 a1))]), (3, [.c (.box 0 0)]), (5, [.c (.box 1 0)]), (6, [.c (.box 2 0)]), (7, [.c (.pv (.bool (decide (a1 ≥ a0.N))))])]) (sub_cons rfl (sub_cons rfl (sub_cons rfl (sub_cons rfl (sub_cons rfl sub_nil))))) ?_
      exact wkE (by kernel_rfl) (by kernel_rfl)
  · refine then_ ?_
    refine cond_ (b := j1) rfl (fun k2 => ?_) (fun k2 => ?_)
    · have h := iteT h k2
      refine seq_ ?_
      refine region_ ?_
      refine R tbok 1 [16, 1, 3, 5, 6] [(16, [.agg (bs (e_zone_Zone a0))]), (1, [.c (.pv (.int .i64 a1))]), (3, [.c (.box 0 0)]), (5, [.c (.box 1 0)]), (6, [.c (.box 2 0)])] (by kernel_rfl) ?_
      refine S rfl rfl rfl ty62 (by decide) rfl rfl rfl rfl rfl (.all rfl) (.s (.s .z)) ?_
      refine ops_nil ?_
      refine then_ ?_
      refine ret_ ?_
      obtain rfl := retE h
      refine bR (tR (rwr (rw_ (.cellA (ys := (bs (e_zone_Zone a0))) ty62 rfl rfl (by kernel_rfl) (by kernel_rfl) .nil) ?_)))
      refine w_none 0 .z ?_
      refine w_none 1 (.s .z) ?_
      refine w_none 2 (.s (.s .z)) ?_
      refine w_cut 0 rfl rfl rfl rfl ?_
      exact wkE (by kernel_rfl) (by kernel_rfl)
    · have h := iteF h k2
      refine seq_ ?_
      refine region_ ?_
      refine R tbok 1 [18, 1, 3, 5, 6] [(18, [.agg [.pv (.int .i64 a2.Lo), .pv (.int .i64 a2.Hi)]]), (1, [.c (.pv (.int .i64 a1))]), (3, [.c (.box 0 0)]), (5, [.c (.box 1 0)]), (6, [.c (.box 2 0)])] (by kernel_rfl) ?_
      obtain ⟨v1, k3, h⟩ := bindE h
      refine C rfl rfl (fl_call rfl Tryz.call106 rfl (by kernel_rfl) (by kernel_rfl) (itv_Empty_meets k3)) rfl ?_
      refine R tbok 1 [17, 1, 3, 5, 6] [(17, [.c (.pv (.bool v1))]), (1, [.c (.pv (.int .i64 a1))]), (3, [.c (.box 0 0)]), (5, [.c (.box 1 0)]), (6, [.c (.box 2 0)])] (by kernel_rfl) ?_
      refine ops_nil ?_
      refine then_ ?_
      refine cond_ (b := v1) rfl (fun k4 => ?_) (fun k4 => ?_)
      · have h := iteT h k4
        refine seq_ ?_
        refine region_ ?_
        refine R tbok 2 [21, 1, 3, 5, 6] [(21, [.c (.pv (.int .i64 a0.N))]), (1, [.c (.pv (.int .i64 a1))]), (3, [.c (.box 0 0)]), (5, [.c (.box 1 0)]), (6, [.c (.box 2 0)])] (by kernel_rfl) ?_
        obtain ⟨v2, k5, h⟩ := bindE h
        refine C rfl rfl (fl_call rfl Tryz.call88 rfl (by kernel_rfl) (by kernel_rfl) (num_None_meets k5)) rfl ?_
        refine R tbok 1 [23, 1, 3, 5, 6] [(23, [.agg (bs (e_zone_Zone v2.Z))]), (1, [.c (.pv (.int .i64 a1))]), (3, [.c (.box 0 0)]), (5, [.c (.box 1 0)]), (6, [.c (.box 2 0)])] (by kernel_rfl) ?_
        refine S rfl rfl rfl ty62 (by decide) rfl rfl rfl rfl rfl (.all rfl) (.s (.s .z)) ?_
        refine ops_nil ?_
        refine then_ ?_
        refine ret_ ?_
        obtain rfl := retE h
        refine bR (tR (rwr (rw_ (.cellA (ys := (bs (e_zone_Zone v2.Z))) ty62 rfl rfl (by kernel_rfl) (by kernel_rfl) .nil) ?_)))
        refine w_none 0 .z ?_
        refine w_none 1 (.s .z) ?_
        refine w_none 2 (.s (.s .z)) ?_
        refine w_cut 0 rfl rfl rfl rfl ?_
        exact wkE (by kernel_rfl) (by kernel_rfl)
      · have h := iteF h k4
        refine skip_ ?_
        refine bN ?_
        refine then_ ?_
        refine seq_ ?_
        refine drawn_ mixed ?_
        refine dl (t := 24) 0 [.agg (bs (e_zone_Zone a0))] rfl ?_
        refine dl (t := 25) 1 [.c (.pv (.int .i64 a1))] rfl ?_
        refine dl (t := 26) 2 [.c (.box 1 1)] rfl ?_
        refine dl (t := 27) 3 [.c (.pv (.int .i64 a2.Hi))] rfl ?_
        obtain ⟨v4, k7, h⟩ := bindE h
        refine dl (t := 28) 4 [.agg (bs (e_zone_Zone v4))] rfl ?_
        refine dl (t := 29) 5 [.c (.pv (.int .i64 a1))] rfl ?_
        refine dl (t := 30) 6 [.c (.box 1 0)] rfl ?_
        refine dl (t := 31) 7 [.c (.pv (.int .i64 a2.Lo))] rfl ?_
        refine dl (t := 32) 8 [.c (.pv (.int .i64 (IntKind.i64.wrap (0 - a2.Lo))))] rfl ?_
        obtain ⟨v6, k9, h⟩ := bindE h
        refine dl (t := 33) 9 [.agg (bs (e_zone_Zone v6))] rfl ?_
        refine d_store (wm [0, 0, 0, 4, 15, 0, 0, 64, 192, 511, 1023]) 10 rfl (by kernel_rfl) (by kernel_rfl) (by kernel_rfl) (by kernel_rfl) (by kernel_rfl) (gi0 rfl) (oL [] rfl (by kernel_rfl) (fl_call rfl Tryz.call140 rfl (by kernel_rfl) (by kernel_rfl) (zone_Bound_meets k9)) (oE tbok [] 4 (by kernel_rfl) (oL [] rfl (by kernel_rfl) (fl_call rfl Tryz.call140 rfl (by kernel_rfl) (by kernel_rfl) (zone_Bound_meets k7)) (oE tbok [] 4 (by kernel_rfl) trivial)))) rfl rfl ty62 rfl rfl rfl rfl rfl rfl (putE 51 (.all rfl) rfl (by decide)) (SetAt.eq (.s (.s .z))) ?_
        refine d_endS (env2 := [(6, [.c (.box 2 0)])]) (wm [0, 0, 0, 4, 15, 0, 0, 64, 192, 511, 1023]) (by kernel_rfl) (by kernel_rfl) (by kernel_rfl) (oN 11 (by kernel_rfl) trivial) (sub_cons rfl sub_nil) wT ?_
        refine then_ ?_
        refine ret_ ?_
        obtain rfl := retE h
        refine rwr (rw_ (.cellA (ys := (bs (e_zone_Zone v6))) ty62 rfl rfl (by kernel_rfl) (by kernel_rfl) .nil) ?_)
        refine w_none 0 .z ?_
        refine w_none 1 (.s .z) ?_
        refine w_none 2 (.s (.s .z)) ?_
        refine w_cut 0 rfl rfl rfl rfl ?_
        exact wkE (by kernel_rfl) (by kernel_rfl)

theorem num_Set_meets {a0 : num_Num} {a1 : Int} {a2 : itv_Itv} {r : num_Num} (h : num_Set a0 a1 a2 = some r) : MeetsV Tryz.prog GG 51 [.agg (bs (e_num_Num a0)), .c (.pv (.int .i64 a1)), .agg [.pv (.int .i64 a2.Lo), .pv (.int .i64 a2.Hi)]] [.agg (bs (e_num_Num r))] := by
  refine MeetsS.toV (meetsW_of (st0 := []) (N := 15) r_num_Set o_num_Set r Tryz.func51 rfl rfl rfl (by dsimp only [argEnv]) rfl ?_) rfl
  unfold num_Set at h
  refine seq_ ?_
  refine region_ ?_
  refine B rfl rfl (bir_box rfl rfl rfl) rfl rfl .z ?_
  refine B rfl rfl (bir_box rfl rfl rfl) rfl rfl (.s .z) ?_
  refine B rfl rfl (bir_alloc rfl z64 rfl rfl) rfl rfl (.s (.s .z)) ?_
  refine ops_nil ?_
  refine then_ ?_
  refine seq_ ?_
  refine drawn_ mixed ?_
  refine dl (t := 7) 0 [.c (.box 0 2)] rfl ?_
  refine dl (t := 8) 1 [.agg (bs (e_zone_Zone a0.Z))] rfl ?_
  refine dl (t := 9) 2 [.c (.pv (.int .i64 a1))] rfl ?_
  obtain ⟨v2, k2, h⟩ := bindE h
  refine dl (t := 10) 3 [.agg (bs (e_zone_Zone v2))] rfl ?_
  refine dl (t := 11) 4 [.c (.pv (.int .i64 a1))] rfl ?_
  refine dl (t := 12) 5 [.agg [.pv (.int .i64 a2.Lo), .pv (.int .i64 a2.Hi)]] rfl ?_
  obtain ⟨v4, k4, h⟩ := bindE h
  refine dl (t := 13) 6 [.agg (bs (e_zone_Zone v4))] rfl ?_
  obtain ⟨v6, k6, h⟩ := bindE h
  refine dl (t := 14) 7 [.agg (bs (e_num_Num v6))] rfl ?_
  refine d_store (wm [0, 1, 0, 7, 0, 0, 63, 127, 255]) 8 rfl (by kernel_rfl) (by kernel_rfl) (by kernel_rfl) (by kernel_rfl) (by kernel_rfl) (gi0 rfl) (oL [] rfl (by kernel_rfl) (fl_call rfl Tryz.call49 rfl (by kernel_rfl) (by kernel_rfl) (num_of_meets k6)) (oL [] rfl (by kernel_rfl) (fl_call rfl Tryz.call95 rfl (by kernel_rfl) (by kernel_rfl) (num_held_meets k4)) (oE tbok [] 2 (by kernel_rfl) (oL [] rfl (by kernel_rfl) (fl_call rfl Tryz.call96 rfl (by kernel_rfl) (by kernel_rfl) (zone_Forget_meets k2)) (oE tbok [] 3 (by kernel_rfl) trivial))))) rfl rfl ty64 rfl rfl rfl rfl rfl rfl (putE 53 (.all rfl) rfl (by decide)) (SetAt.eq (.s (.s .z))) ?_
  refine d_endS (env2 := [(6, [.c (.box 2 0)])]) (wm [0, 1, 0, 7, 0, 0, 63, 127, 255]) (by kernel_rfl) (by kernel_rfl) (by kernel_rfl) (oN 9 (by kernel_rfl) trivial) (sub_cons rfl sub_nil) wT ?_
  refine then_ ?_
  refine ret_ ?_
  obtain rfl := retE h
  refine rwr (rw_ (.cellA (ys := (bs (e_num_Num v6))) ty64 rfl rfl (by kernel_rfl) (by kernel_rfl) .nil) ?_)
  refine w_none 0 .z ?_
  refine w_none 1 (.s .z) ?_
  refine w_none 2 (.s (.s .z)) ?_
  refine w_cut 0 rfl rfl rfl rfl ?_
  exact wkE (by kernel_rfl) (by kernel_rfl)

theorem l14_row_meets {a0 : (List Int)} {r : num_Num} (h : l14_row a0 = some r) : MeetsV Tryz.prog GG 16 [.c (.pv (.sl (List.map e_i64 a0)))] [.agg (bs (e_num_Num r))] := by
  refine MeetsS.toV (meetsW_of (st0 := []) (N := 23) r_l14_row o_l14_row r Tryz.func16 rfl rfl rfl (by dsimp only [argEnv]) rfl ?_) rfl
  unfold l14_row at h
  refine seq_ ?_
  refine region_ ?_
  refine B rfl rfl (bir_alloc rfl z64 rfl rfl) rfl rfl .z ?_
  refine ops_nil ?_
  refine then_ ?_
  refine seq_ ?_
  refine region_ ?_
  refine R tbok 1 [5, 2, 0] [(5, [.c (.pv (.sl (List.map e_i64 a0)))]), (2, [.c (.box 0 0)]), (0, [.c (.pv (.sl (List.map e_i64 a0)))])] (by kernel_rfl) ?_
  refine L rfl rfl (len_sl (e := e_i64) rfl u29 rfl) rfl ?_
  obtain ⟨v1, k1, h⟩ := bindE h
  refine C rfl rfl (fl_call rfl Tryz.call46 rfl (by kernel_rfl) (by kernel_rfl) (num_Zeros_meets k1)) rfl ?_
  refine B rfl rfl (bir_alloc rfl z64 rfl rfl) rfl rfl (.s .z) ?_
  refine S rfl rfl rfl ty64 (by decide) rfl rfl rfl rfl rfl (.all rfl) (.s .z) ?_
  refine ops_nil ?_
  refine then_ ?_
  refine seq_ ?_
  refine seq_ ?_
  refine region_ ?_
  refine R tbok 1 [4, 3, 2, 0] [(4, [.c (.pv (.int .i64 0))]), (3, [.c (.box 1 0)]), (2, [.c (.box 0 0)]), (0, [.c (.pv (.sl (List.map e_i64 a0)))])] (by kernel_rfl) ?_
  refine ops_nil ?_
  refine then_ ?_
  refine lp_ (Qr := RW Tryz.prog GG Tryz.f16 0 r_l14_row o_l14_row) (l14_row_l1 a0) (fun (x1 : (Int × num_Num)) => (⟨23, 0, [(0, [.c (.pv (.sl (List.map e_i64 a0)))]), (2, [.c (.box 0 0)]), (3, [.c (.box 1 0)]), (4, [.c (.pv (.int .i64 x1.1))])], [some (.box true 64 ([.pv (.bool false), .emp, .pv (.int .i64 0), .pv (.bool false)] ++ bs (e_T60 (arr (arr 0 []) [(arr 0 [0, 0, 0, 0, 0, 0, 0]), (arr 0 [0, 0, 0, 0, 0, 0, 0]), (arr 0 [0, 0, 0, 0, 0, 0, 0]), (arr 0 [0, 0, 0, 0, 0, 0, 0]), (arr 0 [0, 0, 0, 0, 0, 0, 0]), (arr 0 [0, 0, 0, 0, 0, 0, 0]), (arr 0 [0, 0, 0, 0, 0, 0, 0])])))), some (.box true 64 (bs (e_num_Num x1.2)))]⟩ : Sx)) (fun (j1 : num_Num) => (⟨23, 0, [(2, [.c (.box 0 0)]), (3, [.c (.box 1 0)])], [some (.box true 64 ([.pv (.bool false), .emp, .pv (.int .i64 0), .pv (.bool false)] ++ bs (e_T60 (arr (arr 0 []) [(arr 0 [0, 0, 0, 0, 0, 0, 0]), (arr 0 [0, 0, 0, 0, 0, 0, 0]), (arr 0 [0, 0, 0, 0, 0, 0, 0]), (arr 0 [0, 0, 0, 0, 0, 0, 0]), (arr 0 [0, 0, 0, 0, 0, 0, 0]), (arr 0 [0, 0, 0, 0, 0, 0, 0]), (arr 0 [0, 0, 0, 0, 0, 0, 0])])))), some (.box true 64 (bs (e_num_Num j1)))]⟩ : Sx)) (0, v1) RW.only h wT ?_ (fun x1 o h => ?_) (fun r h s' hs => ?_) (fun j1 h => ?_)
  · refine w_sub (env' := [(0, [.c (.pv (.sl (List.map e_i64 a0)))]), (2, [.c (.box 0 0)]), (3, [.c (.box 1 0)]), (4, [.c (.pv (.int .i64 0))])]) (sub_cons rfl (sub_cons rfl (sub_cons rfl (sub_cons rfl sub_nil)))) ?_
    exact wkE (by kernel_rfl) (by kernel_rfl)
  · unfold l14_row_l1 at h
    refine seq_ ?_
    refine seq_ ?_
    refine region_ ?_
    refine R tbok 2 [9, 8, 0, 2, 3, 4] [(9, [.c (.pv (.sl (List.map e_i64 a0)))]), (8, [.c (.pv (.int .i64 x1.1))]), (0, [.c (.pv (.sl (List.map e_i64 a0)))]), (2, [.c (.box 0 0)]), (3, [.c (.box 1 0)]), (4, [.c (.pv (.int .i64 x1.1))])] (by kernel_rfl) ?_
    refine L rfl rfl (len_sl (e := e_i64) rfl u29 rfl) rfl ?_
    refine R tbok 1 [11, 0, 2, 3, 4] [(11, [.c (.pv (.bool (decide (x1.1 < (a0.length : Int)))))]), (0, [.c (.pv (.sl (List.map e_i64 a0)))]), (2, [.c (.box 0 0)]), (3, [.c (.box 1 0)]), (4, [.c (.pv (.int .i64 x1.1))])] (by kernel_rfl) ?_
    refine ops_nil ?_
    refine then_ ?_
    refine cond_ (b := (decide (x1.1 < (a0.length : Int)))) rfl (fun k2 => ?_) (fun k2 => ?_)
    · have h := iteT h k2
      refine skip_ ?_
      refine then_ ?_
      refine seq_ ?_
      refine block_ ?_
      refine drawn_ mixed ?_
      refine dl (t := 14) 0 [.agg (bs (e_num_Num x1.2))] rfl ?_
      refine dl (t := 15) 1 [.c (.pv (.int .i64 x1.1))] rfl ?_
      refine dl (t := 16) 2 [.c (.pv (.sl (List.map e_i64 a0)))] rfl ?_
      refine dl (t := 17) 3 [.c (.pv (.int .i64 x1.1))] rfl ?_
      obtain ⟨v2, k3, h⟩ := bindE h
      refine dl (t := 18) 4 [.c (.ep [.int .i64 v2])] rfl ?_
      refine dl (t := 19) 5 [.c (.pv (.int .i64 v2))] rfl ?_
      obtain ⟨v4, k5, h⟩ := bindE h
      refine dl (t := 20) 6 [.agg [.pv (.int .i64 v4.Lo), .pv (.int .i64 v4.Hi)]] rfl ?_
      obtain ⟨v6, k7, h⟩ := bindE h
      refine dl (t := 21) 7 [.agg (bs (e_num_Num v6))] rfl ?_
      refine d_store (wm [0, 0, 0, 0, 12, 28, 60, 127, 255]) 8 rfl (by kernel_rfl) (by kernel_rfl) (by kernel_rfl) (by kernel_rfl) (by kernel_rfl) (gi0 rfl) (oL [] rfl (by kernel_rfl) (fl_call rfl Tryz.call51 rfl (by kernel_rfl) (by kernel_rfl) (num_Set_meets k7)) (oL [] rfl (by kernel_rfl) (fl_call rfl Tryz.call41 rfl (by kernel_rfl) (by kernel_rfl) (itv_Const_meets k5)) (oE tbok [] 1 (by kernel_rfl) (oL [] rfl (by kernel_rfl) (fl_lt (ia_sl (e := e_i64) (y := v2) rfl u29 ty3 rfl rfl k3 rfl)) (oE tbok [] 4 (by kernel_rfl) trivial))))) rfl rfl ty64 rfl rfl rfl rfl rfl rfl (putE 53 (.all rfl) rfl (by decide)) (SetAt.eq (.s .z)) ?_
      refine d_endS (env2 := [(0, [.c (.pv (.sl (List.map e_i64 a0)))]), (2, [.c (.box 0 0)]), (3, [.c (.box 1 0)]), (4, [.c (.pv (.int .i64 x1.1))])]) (wm [0, 0, 0, 0, 12, 28, 60, 127, 255]) (by kernel_rfl) (by kernel_rfl) (by kernel_rfl) (oN 9 (by kernel_rfl) trivial) (sub_cons rfl (sub_cons rfl (sub_cons rfl (sub_cons rfl sub_nil)))) (wB wT) ?_
      refine bN ?_
      refine then_ ?_
      refine region_ ?_
      refine R tbok 3 [4, 0, 2, 3] [(4, [.c (.pv (.int .i64 (IntKind.i64.wrap (x1.1 + 1))))]), (0, [.c (.pv (.sl (List.map e_i64 a0)))]), (2, [.c (.box 0 0)]), (3, [.c (.box 1 0)])] (by kernel_rfl) ?_
      refine ops_nil ?_
      obtain rfl := retE h
      refine lN ?_
      refine w_sub (env' := [(0, [.c (.pv (.sl (List.map e_i64 a0)))]), (2, [.c (.box 0 0)]), (3, [.c (.box 1 0)]), (4, [.c (.pv (.int .i64 (IntKind.i64.wrap (x1.1 + 1))))])]) (sub_cons rfl (sub_cons rfl (sub_cons rfl (sub_cons rfl sub_nil)))) ?_
      exact wkE (by kernel_rfl) (by kernel_rfl)
    · have h := iteF h k2
      refine exit_ ?_
      refine tX ?_
      obtain rfl := retE h
      refine lX ?_
      refine w_sub (env' := [(2, [.c (.box 0 0)]), (3, [.c (.box 1 0)])]) (sub_cons rfl (sub_cons rfl sub_nil)) ?_
      exact wkE (by kernel_rfl) (by kernel_rfl)
  · cases h
  · have h := elimR h
    refine then_ ?_
    refine seq_ ?_
    refine region_ ?_
    refine R tbok 1 [22, 2] [(22, [.agg (bs (e_num_Num j1))]), (2, [.c (.box 0 0)])] (by kernel_rfl) ?_
    refine S rfl rfl rfl ty64 (by decide) rfl rfl rfl rfl rfl (.all rfl) .z ?_
    refine ops_nil ?_
    refine then_ ?_
    refine ret_ ?_
    obtain rfl := retE h
    refine rwr (rw_ (.cellA (ys := (bs (e_num_Num j1))) ty64 rfl rfl (by kernel_rfl) (by kernel_rfl) .nil) ?_)
    refine w_none 0 .z ?_
    refine w_none 1 (.s .z) ?_
    refine w_cut 0 rfl rfl rfl rfl ?_
    exact wkE (by kernel_rfl) (by kernel_rfl)

theorem zone_alike_meets {a0 : zone_Zone} {a1 : zone_Zone} {r : Bool} (h : zone_alike a0 a1 = some r) : MeetsV Tryz.prog GG 139 [.agg (bs (e_zone_Zone a0)), .agg (bs (e_zone_Zone a1))] [.c (.pv (.bool r))] := by
  refine MeetsS.toV (meetsW_of (st0 := []) (N := 15) r_zone_alike o_zone_alike r Tryz.func139 rfl rfl rfl (by dsimp only [argEnv]) rfl ?_) rfl
  unfold zone_alike at h
  refine seq_ ?_
  refine region_ ?_
  refine B rfl rfl (bir_box rfl rfl rfl) rfl rfl .z ?_
  refine B rfl rfl (bir_box rfl rfl rfl) rfl rfl (.s .z) ?_
  refine R tbok 1 [4, 3, 2] [(4, [.c (.pv (.bool false))]), (3, [.c (.box 1 0)]), (2, [.c (.box 0 0)])] (by kernel_rfl) ?_
  refine ops_nil ?_
  refine then_ ?_
  refine seq_ ?_
  refine jn_ (fun (j1 : Bool) => (⟨15, 0, [(4, [.c (.pv (.bool j1))])], []⟩ : Sx)) h wT (fun o h => ?_) (fun j1 h => ?_)
  · refine region_ ?_
    refine R tbok 6 [10, 4, 2] [(10, [.c (.pv (.bool (a0.N == a1.N)))]), (4, [.c (.pv (.bool false))]), (2, [.c (.box 0 0)])] (by kernel_rfl) ?_
    refine (tf (a0.N == a1.N)).elim (fun k1 => ?_) (fun k1 => ?_)
    · have h := iteT h k1
      refine Lg rfl rfl rfl k1 rfl (lt_fa_box rfl f62_0 ty3 (by decide) rfl) rfl ?_
      refine Lg rfl rfl rfl k1 rfl (lt_load_box rfl ty3 rfl rfl rfl) rfl ?_
      obtain ⟨v1, k2, h⟩ := bindE h
      refine Hg rfl rfl rfl k1 rfl rfl (op_fl rfl rfl (fl_call rfl Tryz.call116 rfl (by kernel_rfl) (by kernel_rfl) (zone_count_meets k2)) ?_)
      refine L rfl rfl (lt_pickT rfl rfl k1 rfl) rfl ?_
      refine R tbok 1 [4] [(4, [.c (.pv (.bool v1))])] (by kernel_rfl) ?_
      refine ops_nil ?_
      obtain rfl := retE h
      refine mN ?_
      refine w_cut 0 rfl rfl rfl rfl ?_
      exact wkE (by kernel_rfl) (by kernel_rfl)
    · have h := iteF h k1
      refine Ls0 rfl rfl rfl k1 rfl rfl ?_
      refine Ls0 rfl rfl rfl k1 rfl rfl ?_
      refine Ls0 rfl rfl rfl k1 rfl rfl ?_
      refine L rfl rfl (lt_pickF rfl rfl k1 rfl) rfl ?_
      refine R tbok 1 [4] [(4, [.c (.pv (.bool false))])] (by kernel_rfl) ?_
      refine ops_nil ?_
      obtain rfl := retE h
      refine mN ?_
      refine w_cut 0 rfl rfl rfl rfl ?_
      exact wkE (by kernel_rfl) (by kernel_rfl)
  · refine then_ ?_
    refine ret_ ?_
    obtain rfl := retE h
    refine rwr (rw_ (.tmp rfl .nil) ?_)
    exact wkE (by kernel_rfl) (by kernel_rfl)

theorem zone_Join_1_meets {a0 : Int} {a1 : Int} {r : Int} (h : zone_Join_1 a0 a1 = some r) : MeetsV Tryz.prog GG 94 [.c (.pv (.int .i64 a0)), .c (.pv (.int .i64 a1))] [.c (.pv (.int .i64 r))] := by
  refine MeetsS.toV (meetsW_of (st0 := []) (N := 8) r_zone_Join_1 o_zone_Join_1 r Tryz.func94 rfl rfl rfl (by dsimp only [argEnv]) rfl ?_) rfl
  unfold zone_Join_1 at h
  refine seq_ ?_
  refine region_ ?_
  refine R tbok 1 [4, 0, 1] [(4, [.c (.pv (.int .i64 0))]), (0, [.c (.pv (.int .i64 a0))]), (1, [.c (.pv (.int .i64 a1))])] (by kernel_rfl) ?_
  refine ops_nil ?_
  refine then_ ?_
  refine seq_ ?_
  refine region_ ?_
  refine R tbok 2 [6, 5, 4] [(6, [.c (.pv (.int .i64 a1))]), (5, [.c (.pv (.int .i64 a0))]), (4, [.c (.pv (.int .i64 0))])] (by kernel_rfl) ?_
  refine L rfl rfl (lt_max2 rfl rfl rfl) rfl ?_
  refine R tbok 1 [4] [(4, [.c (.pv (.int .i64 (max a0 a1)))])] (by kernel_rfl) ?_
  refine ops_nil ?_
  refine then_ ?_
  refine ret_ ?_
  obtain rfl := retE h
  refine rwr (rw_ (.tmp rfl .nil) ?_)
  exact wkE (by kernel_rfl) (by kernel_rfl)

theorem zone_both_zone_Join_1_meets {a0 : zone_Zone} {a1 : zone_Zone} {r : zone_Zone} (h : zone_both_zone_Join_1 a0 a1 = some r) : MeetsV Tryz.prog GG 93 [.agg (bs (e_zone_Zone a0)), .agg (bs (e_zone_Zone a1)), .fn (.func 94) [] []] [.agg (bs (e_zone_Zone r))] := by
  refine MeetsS.toV (meetsW_of (st0 := []) (N := 53) r_zone_both_zone_Join_1 o_zone_both_zone_Join_1 r Tryz.func93 rfl rfl rfl (by dsimp only [argEnv]) rfl ?_) rfl
  unfold zone_both_zone_Join_1 at h
  refine seq_ ?_
  refine region_ ?_
  refine B rfl rfl (bir_box rfl rfl rfl) rfl rfl .z ?_
  refine B rfl rfl (bir_box rfl rfl rfl) rfl rfl (.s .z) ?_
  refine B rfl rfl (bir_alloc rfl z62 rfl rfl) rfl rfl (.s (.s .z)) ?_
  refine ops_nil ?_
  refine then_ ?_
  refine seq_ ?_
  refine block_ ?_
  refine seq_ ?_
  refine jn_ (fun (j1 : Bool) => (⟨53, 0, [(2, [.fn (.func 94) [] []]), (3, [.c (.box 0 0)]), (4, [.c (.box 1 0)]), (6, [.c (.box 2 0)]), (11, [.c (.pv (.bool j1))])], [some (.box true 62 (bs (e_zone_Zone a0))), some (.box true 62 (bs (e_zone_Zone a1))), some (.box true 62 (bs (e_zone_Zone (zone_Zone.mk 0 false (arr (arr 0 []) [(arr 0 [0, 0, 0, 0, 0, 0, 0]), (arr 0 [0, 0, 0, 0, 0, 0, 0]), (arr 0 [0, 0, 0, 0, 0, 0, 0]), (arr 0 [0, 0, 0, 0, 0, 0, 0]), (arr 0 [0, 0, 0, 0, 0, 0, 0]), (arr 0 [0, 0, 0, 0, 0, 0, 0]), (arr 0 [0, 0, 0, 0, 0, 0, 0])])))))]⟩ : Sx)) h wT (fun o h => ?_) (fun j1 h => ?_)
  · refine region_ ?_
    refine R tbok 2 [13, 12, 6, 4, 3, 2] [(13, [.agg (bs (e_zone_Zone a1))]), (12, [.agg (bs (e_zone_Zone a0))]), (6, [.c (.box 2 0)]), (4, [.c (.box 1 0)]), (3, [.c (.box 0 0)]), (2, [.fn (.func 94) [] []])] (by kernel_rfl) ?_
    obtain ⟨v1, k1, h⟩ := bindE h
    refine C rfl rfl (fl_call rfl Tryz.call139 rfl (by kernel_rfl) (by kernel_rfl) (zone_alike_meets k1)) rfl ?_
    refine R tbok 2 [16, 6, 4, 3, 2] [(16, [.c (.pv (.bool (!v1)))]), (6, [.c (.box 2 0)]), (4, [.c (.box 1 0)]), (3, [.c (.box 0 0)]), (2, [.fn (.func 94) [] []])] (by kernel_rfl) ?_
    refine (tf (!v1)).elim (fun k2 => ?_) (fun k2 => ?_)
    · have h := iteT h k2
      refine Ls0 rfl rfl rfl k2 rfl rfl ?_
      refine Ls0 rfl rfl rfl k2 rfl rfl ?_
      refine L rfl rfl (lt_pickT rfl rfl k2 rfl) rfl ?_
      refine R tbok 1 [11, 6, 4, 3, 2] [(11, [.c (.pv (.bool true))]), (6, [.c (.box 2 0)]), (4, [.c (.box 1 0)]), (3, [.c (.box 0 0)]), (2, [.fn (.func 94) [] []])] (by kernel_rfl) ?_
      refine ops_nil ?_
      obtain rfl := retE h
      refine mN ?_
      refine w_sub (env' := [(2, [.fn (.func 94) [] []]), (3, [.c (.box 0 0)]), (4, [.c (.box 1 0)]), (6, [.c (.box 2 0)]), (11, [.c (.pv (.bool true))])]) (sub_cons rfl (sub_cons rfl (sub_cons rfl (sub_cons rfl (sub_cons rfl sub_nil))))) ?_
      exact wkE (by kernel_rfl) (by kernel_rfl)
    · have h := iteF h k2
      refine Lg rfl rfl rfl k2 rfl (lt_fa_box rfl f62_1 ty4 (by decide) rfl) rfl ?_
      refine Lg rfl rfl rfl k2 rfl (lt_load_box rfl ty4 rfl rfl rfl) rfl ?_
      refine L rfl rfl (lt_pickF rfl rfl k2 rfl) rfl ?_
      refine R tbok 1 [11, 6, 4, 3, 2] [(11, [.c (.pv (.bool a1.None))]), (6, [.c (.box 2 0)]), (4, [.c (.box 1 0)]), (3, [.c (.box 0 0)]), (2, [.fn (.func 94) [] []])] (by kernel_rfl) ?_
      refine ops_nil ?_
      obtain rfl := retE h
      refine mN ?_
      refine w_sub (env' := [(2, [.fn (.func 94) [] []]), (3, [.c (.box 0 0)]), (4, [.c (.box 1 0)]), (6, [.c (.box 2 0)]), (11, [.c (.pv (.bool a1.None))])]) (sub_cons rfl (sub_cons rfl (sub_cons rfl (sub_cons rfl (sub_cons rfl sub_nil))))) ?_
      exact wkE (by kernel_rfl) (by kernel_rfl)
  · refine then_ ?_
    refine cond_ (b := j1) rfl (fun k3 => ?_) (fun k3 => ?_)
    · have h := iteT h k3
      refine seq_ ?_
      refine region_ ?_
      refine R tbok 1 [20, 2, 3, 4, 6] [(20, [.agg (bs (e_zone_Zone a0))]), (2, [.fn (.func 94) [] []]), (3, [.c (.box 0 0)]), (4, [.c (.box 1 0)]), (6, [.c (.box 2 0)])] (by kernel_rfl) ?_
      refine S rfl rfl rfl ty62 (by decide) rfl rfl rfl rfl rfl (.all rfl) (.s (.s .z)) ?_
      refine ops_nil ?_
      refine then_ ?_
      refine ret_ ?_
      obtain rfl := retE h
      refine bR (tR (rwr (rw_ (.cellA (ys := (bs (e_zone_Zone a0))) ty62 rfl rfl (by kernel_rfl) (by kernel_rfl) .nil) ?_)))
      refine w_none 0 .z ?_
      refine w_none 1 (.s .z) ?_
      refine w_none 2 (.s (.s .z)) ?_
      refine w_cut 0 rfl rfl rfl rfl ?_
      exact wkE (by kernel_rfl) (by kernel_rfl)
    · have h := iteF h k3
      refine seq_ ?_
      refine region_ ?_
      refine R tbok 3 [21, 2, 3, 4, 6] [(21, [.c (.pv (.bool a0.None))]), (2, [.fn (.func 94) [] []]), (3, [.c (.box 0 0)]), (4, [.c (.box 1 0)]), (6, [.c (.box 2 0)])] (by kernel_rfl) ?_
      refine ops_nil ?_
      refine then_ ?_
      refine cond_ (b := a0.None) rfl (fun k4 => ?_) (fun k4 => ?_)
      · have h := iteT h k4
        refine seq_ ?_
        refine region_ ?_
        refine R tbok 1 [24, 2, 3, 4, 6] [(24, [.agg (bs (e_zone_Zone a1))]), (2, [.fn (.func 94) [] []]), (3, [.c (.box 0 0)]), (4, [.c (.box 1 0)]), (6, [.c (.box 2 0)])] (by kernel_rfl) ?_
        refine S rfl rfl rfl ty62 (by decide) rfl rfl rfl rfl rfl (.all rfl) (.s (.s .z)) ?_
        refine ops_nil ?_
        refine then_ ?_
        refine ret_ ?_
        obtain rfl := retE h
        refine bR (tR (rwr (rw_ (.cellA (ys := (bs (e_zone_Zone a1))) ty62 rfl rfl (by kernel_rfl) (by kernel_rfl) .nil) ?_)))
        refine w_none 0 .z ?_
        refine w_none 1 (.s .z) ?_
        refine w_none 2 (.s (.s .z)) ?_
        refine w_cut 0 rfl rfl rfl rfl ?_
        exact wkE (by kernel_rfl) (by kernel_rfl)
      · have h := iteF h k4
        refine skip_ ?_
        refine bN ?_
        refine then_ ?_
        refine seq_ ?_
        refine seq_ ?_
        refine region_ ?_
        refine R tbok 3 [27, 26, 2, 3, 4, 6] [(27, [.c (.pv (.int .i64 0))]), (26, [.agg (bs (e_T60 a0.D))]), (2, [.fn (.func 94) [] []]), (3, [.c (.box 0 0)]), (4, [.c (.box 1 0)]), (6, [.c (.box 2 0)])] (by kernel_rfl) ?_
        refine ops_nil ?_
        refine then_ ?_
        refine lp_ (Qr := RW Tryz.prog GG Tryz.f93 0 r_zone_both_zone_Join_1 o_zone_both_zone_Join_1) (zone_both_zone_Join_1_l2 a0 a1) (fun (x2 : (Int × zone_Zone)) => (⟨53, 0, [(2, [.fn (.func 94) [] []]), (3, [.c (.box 0 0)]), (4, [.c (.box 1 0)]), (6, [.c (.box 2 0)]), (26, [.agg (bs (e_T60 a0.D))]), (27, [.c (.pv (.int .i64 x2.1))])], [some (.box true 62 (bs (e_zone_Zone x2.2))), some (.box true 62 (bs (e_zone_Zone a1))), some (.box true 62 (bs (e_zone_Zone (zone_Zone.mk 0 false (arr (arr 0 []) [(arr 0 [0, 0, 0, 0, 0, 0, 0]), (arr 0 [0, 0, 0, 0, 0, 0, 0]), (arr 0 [0, 0, 0, 0, 0, 0, 0]), (arr 0 [0, 0, 0, 0, 0, 0, 0]), (arr 0 [0, 0, 0, 0, 0, 0, 0]), (arr 0 [0, 0, 0, 0, 0, 0, 0]), (arr 0 [0, 0, 0, 0, 0, 0, 0])])))))]⟩ : Sx)) (fun (j2 : zone_Zone) => (⟨53, 0, [(3, [.c (.box 0 0)]), (6, [.c (.box 2 0)])], [some (.box true 62 (bs (e_zone_Zone j2))), none, some (.box true 62 (bs (e_zone_Zone (zone_Zone.mk 0 false (arr (arr 0 []) [(arr 0 [0, 0, 0, 0, 0, 0, 0]), (arr 0 [0, 0, 0, 0, 0, 0, 0]), (arr 0 [0, 0, 0, 0, 0, 0, 0]), (arr 0 [0, 0, 0, 0, 0, 0, 0]), (arr 0 [0, 0, 0, 0, 0, 0, 0]), (arr 0 [0, 0, 0, 0, 0, 0, 0]), (arr 0 [0, 0, 0, 0, 0, 0, 0])])))))]⟩ : Sx)) (0, a0) RW.only h wT ?_ (fun x2 o h => ?_) (fun r h s' hs => ?_) (fun j2 h => ?_)
        · refine w_sub (env' := [(2, [.fn (.func 94) [] []]), (3, [.c (.box 0 0)]), (4, [.c (.box 1 0)]), (6, [.c (.box 2 0)]), (26, [.agg (bs (e_T60 a0.D))]), (27, [.c (.pv (.int .i64 0))])]) (sub_cons rfl (sub_cons rfl (sub_cons rfl (sub_cons rfl (sub_cons rfl (sub_cons rfl sub_nil)))))) ?_
          exact wkE (by kernel_rfl) (by kernel_rfl)
        · unfold zone_both_zone_Join_1_l2 at h
          refine seq_ ?_
          refine region_ ?_
          refine R tbok 1 [28, 2, 3, 4, 6, 26, 27] [(28, [.c (.pv (.bool (decide (x2.1 < 7))))]), (2, [.fn (.func 94) [] []]), (3, [.c (.box 0 0)]), (4, [.c (.box 1 0)]), (6, [.c (.box 2 0)]), (26, [.agg (bs (e_T60 a0.D))]), (27, [.c (.pv (.int .i64 x2.1))])] (by kernel_rfl) ?_
          refine ops_nil ?_
          refine then_ ?_
          refine seq_ ?_
          refine cond_ (b := (decide (x2.1 < 7))) rfl (fun k5 => ?_) (fun k5 => ?_)
          · have h := iteT h k5
            refine skip_ ?_
            refine then_ ?_
            refine seq_ ?_
            refine block_ ?_
            refine seq_ ?_
            refine region_ ?_
            refine R tbok 1 [29, 2, 3, 4, 6, 26, 27] [(29, [.c (.pv (.int .i64 x2.1))]), (2, [.fn (.func 94) [] []]), (3, [.c (.box 0 0)]), (4, [.c (.box 1 0)]), (6, [.c (.box 2 0)]), (26, [.agg (bs (e_T60 a0.D))]), (27, [.c (.pv (.int .i64 x2.1))])] (by kernel_rfl) ?_
            obtain ⟨v2, k6, h⟩ := bindE h
            refine L rfl rfl (ixA (e := (PV.int .i64)) (D2 := a0.D) (ys := (bs (e_T59 (a0.D v2)))) rfl u60 ty59 rfl rfl (by kernel_rfl) k6 (by kernel_rfl)) rfl ?_
            refine B rfl rfl (bir_alloc rfl z59 rfl rfl) rfl rfl (.s (.s (.s .z))) ?_
            refine R tbok 1 [7, 8, 30, 2, 3, 4, 6, 26, 27] [(7, [.c (.pv (.int .i64 x2.1))]), (8, [.c (.box 3 0)]), (30, [.agg (bs (e_T59 (a0.D v2)))]), (2, [.fn (.func 94) [] []]), (3, [.c (.box 0 0)]), (4, [.c (.box 1 0)]), (6, [.c (.box 2 0)]), (26, [.agg (bs (e_T60 a0.D))]), (27, [.c (.pv (.int .i64 x2.1))])] (by kernel_rfl) ?_
            refine S rfl rfl rfl ty59 (by decide) rfl rfl rfl rfl rfl (.all rfl) (.s (.s (.s .z))) ?_
            refine ops_nil ?_
            refine then_ ?_
            refine seq_ ?_
            refine region_ ?_
            refine R tbok 2 [32, 31, 7, 2, 3, 4, 6, 26, 27] [(32, [.c (.pv (.int .i64 0))]), (31, [.agg (bs (e_T59 (a0.D v2)))]), (7, [.c (.pv (.int .i64 x2.1))]), (2, [.fn (.func 94) [] []]), (3, [.c (.box 0 0)]), (4, [.c (.box 1 0)]), (6, [.c (.box 2 0)]), (26, [.agg (bs (e_T60 a0.D))]), (27, [.c (.pv (.int .i64 x2.1))])] (by kernel_rfl) ?_
            refine ops_nil ?_
            refine then_ ?_
            refine lp_ (Qr := RW Tryz.prog GG Tryz.f93 0 r_zone_both_zone_Join_1 o_zone_both_zone_Join_1) (zone_both_zone_Join_1_l3 a0 a1 v2 x2) (fun (x3 : (Int × zone_Zone)) => (⟨53, 0, [(2, [.fn (.func 94) [] []]), (3, [.c (.box 0 0)]), (4, [.c (.box 1 0)]), (6, [.c (.box 2 0)]), (7, [.c (.pv (.int .i64 x2.1))]), (26, [.agg (bs (e_T60 a0.D))]), (27, [.c (.pv (.int .i64 x2.1))]), (31, [.agg (bs (e_T59 (a0.D v2)))]), (32, [.c (.pv (.int .i64 x3.1))])], [some (.box true 62 (bs (e_zone_Zone x3.2))), some (.box true 62 (bs (e_zone_Zone a1))), some (.box true 62 (bs (e_zone_Zone (zone_Zone.mk 0 false (arr (arr 0 []) [(arr 0 [0, 0, 0, 0, 0, 0, 0]), (arr 0 [0, 0, 0, 0, 0, 0, 0]), (arr 0 [0, 0, 0, 0, 0, 0, 0]), (arr 0 [0, 0, 0, 0, 0, 0, 0]), (arr 0 [0, 0, 0, 0, 0, 0, 0]), (arr 0 [0, 0, 0, 0, 0, 0, 0]), (arr 0 [0, 0, 0, 0, 0, 0, 0])]))))), none]⟩ : Sx)) (fun (j3 : zone_Zone) => (⟨53, 0, [(2, [.fn (.func 94) [] []]), (3, [.c (.box 0 0)]), (4, [.c (.box 1 0)]), (6, [.c (.box 2 0)]), (26, [.agg (bs (e_T60 a0.D))]), (27, [.c (.pv (.int .i64 x2.1))])], [some (.box true 62 (bs (e_zone_Zone j3))), some (.box true 62 (bs (e_zone_Zone a1))), some (.box true 62 (bs (e_zone_Zone (zone_Zone.mk 0 false (arr (arr 0 []) [(arr 0 [0, 0, 0, 0, 0, 0, 0]), (arr 0 [0, 0, 0, 0, 0, 0, 0]), (arr 0 [0, 0, 0, 0, 0, 0, 0]), (arr 0 [0, 0, 0, 0, 0, 0, 0]), (arr 0 [0, 0, 0, 0, 0, 0, 0]), (arr 0 [0, 0, 0, 0, 0, 0, 0]), (arr 0 [0, 0, 0, 0, 0, 0, 0])])))))]⟩ : Sx)) (0, x2.2) RW.only h (wB wT) ?_ (fun x3 o h => ?_) (fun r h s' hs => ?_) (fun j3 h => ?_)
            · refine w_sub (env' := [(2, [.fn (.func 94) [] []]), (3, [.c (.box 0 0)]), (4, [.c (.box 1 0)]), (6, [.c (.box 2 0)]), (7, [.c (.pv (.int .i64 x2.1))]), (26, [.agg (bs (e_T60 a0.D))]), (27, [.c (.pv (.int .i64 x2.1))]), (31, [.agg (bs (e_T59 (a0.D v2)))]), (32, [.c (.pv (.int .i64 0))])]) (sub_cons rfl (sub_cons rfl (sub_cons rfl (sub_cons rfl (sub_cons rfl (sub_cons rfl (sub_cons rfl (sub_cons rfl (sub_cons rfl sub_nil))))))))) ?_
              refine w_none 3 (.s (.s (.s .z))) ?_
              exact wkE (by kernel_rfl) (by kernel_rfl)
            · unfold zone_both_zone_Join_1_l3 at h
              refine seq_ ?_
              refine region_ ?_
              refine R tbok 1 [33, 2, 3, 4, 6, 7, 26, 27, 31, 32] [(33, [.c (.pv (.bool (decide (x3.1 < 7))))]), (2, [.fn (.func 94) [] []]), (3, [.c (.box 0 0)]), (4, [.c (.box 1 0)]), (6, [.c (.box 2 0)]), (7, [.c (.pv (.int .i64 x2.1))]), (26, [.agg (bs (e_T60 a0.D))]), (27, [.c (.pv (.int .i64 x2.1))]), (31, [.agg (bs (e_T59 (a0.D v2)))]), (32, [.c (.pv (.int .i64 x3.1))])] (by kernel_rfl) ?_
              refine ops_nil ?_
              refine then_ ?_
              refine seq_ ?_
              refine cond_ (b := (decide (x3.1 < 7))) rfl (fun k7 => ?_) (fun k7 => ?_)
              · have h := iteT h k7
                refine skip_ ?_
                refine then_ ?_
                refine seq_ ?_
                refine block_ ?_
                refine seq_ ?_
                refine region_ ?_
                refine R tbok 1 [34, 2, 3, 4, 6, 7, 26, 27, 31, 32] [(34, [.c (.pv (.int .i64 x3.1))]), (2, [.fn (.func 94) [] []]), (3, [.c (.box 0 0)]), (4, [.c (.box 1 0)]), (6, [.c (.box 2 0)]), (7, [.c (.pv (.int .i64 x2.1))]), (26, [.agg (bs (e_T60 a0.D))]), (27, [.c (.pv (.int .i64 x2.1))]), (31, [.agg (bs (e_T59 (a0.D v2)))]), (32, [.c (.pv (.int .i64 x3.1))])] (by kernel_rfl) ?_
                obtain ⟨v3, k8, h⟩ := bindE h
                refine L rfl rfl (ix1 (e := (PV.int .i64)) (D := (a0.D v2)) rfl u59 ty3 rfl rfl (by kernel_rfl) k8) rfl ?_
                refine R tbok 2 [10, 9, 2, 3, 4, 6, 7, 26, 27, 31, 32] [(10, [.c (.pv (.int .i64 ((a0.D v2) v3)))]), (9, [.c (.pv (.int .i64 x3.1))]), (2, [.fn (.func 94) [] []]), (3, [.c (.box 0 0)]), (4, [.c (.box 1 0)]), (6, [.c (.box 2 0)]), (7, [.c (.pv (.int .i64 x2.1))]), (26, [.agg (bs (e_T60 a0.D))]), (27, [.c (.pv (.int .i64 x2.1))]), (31, [.agg (bs (e_T59 (a0.D v2)))]), (32, [.c (.pv (.int .i64 x3.1))])] (by kernel_rfl) ?_
                refine ops_nil ?_
                refine then_ ?_
                refine drawn_ mixed ?_
                refine dl (t := 36) 0 [.c (.pv (.int .i64 x2.1))] rfl ?_
                refine dl (t := 37) 1 [.c (.pv (.int .i64 x3.1))] rfl ?_
                refine dl (t := 38) 2 [.fn (.func 94) [] []] rfl ?_
                refine dl (t := 39) 3 [.c (.pv (.int .i64 ((a0.D v2) v3)))] rfl ?_
                refine dl (t := 40) 4 [.c (.pv (.int .i64 x2.1))] rfl ?_
                refine dl (t := 41) 5 [.c (.pv (.int .i64 x3.1))] rfl ?_
                refine dl (t := 42) 6 [.c (.box 1 2)] rfl ?_
                obtain ⟨v4, k9, h⟩ := bindE h
                refine dl (t := 43) 7 [.c (.box 1 (2 + v4 * 7))] rfl ?_
                obtain ⟨v5, k10, h⟩ := bindE h
                refine dl (t := 44) 8 [.c (.box 1 (2 + v4 * 7 + v5 * 1))] rfl ?_
                refine dl (t := 45) 9 [.c (.pv (.int .i64 ((a1.D v4) v5)))] rfl ?_
                obtain ⟨v7, k12, h⟩ := bindE h
                refine dl (t := 46) 10 [.c (.pv (.int .i64 v7))] rfl ?_
                refine dl (t := 47) 11 [.c (.box 0 2)] rfl ?_
                obtain ⟨v8, k13, h⟩ := bindE h
                refine dl (t := 48) 12 [.c (.box 0 (2 + v8 * 7))] rfl ?_
                obtain ⟨v9, k14, h⟩ := bindE h
                refine dl (t := 49) 13 [.c (.box 0 (2 + v8 * 7 + v9 * 1))] rfl ?_
                obtain ⟨v10, k15, h⟩ := bindE h
                refine d_storeG (cs' := [.pv (.int .i64 x3.2.N), .pv (.bool x3.2.None), .pv (.int .i64 ((v10 0) 0)), .pv (.int .i64 ((v10 0) 1)), .pv (.int .i64 ((v10 0) 2)), .pv (.int .i64 ((v10 0) 3)), .pv (.int .i64 ((v10 0) 4)), .pv (.int .i64 ((v10 0) 5)), .pv (.int .i64 ((v10 0) 6)), .pv (.int .i64 ((v10 1) 0)), .pv (.int .i64 ((v10 1) 1)), .pv (.int .i64 ((v10 1) 2)), .pv (.int .i64 ((v10 1) 3)), .pv (.int .i64 ((v10 1) 4)), .pv (.int .i64 ((v10 1) 5)), .pv (.int .i64 ((v10 1) 6)), .pv (.int .i64 ((v10 2) 0)), .pv (.int .i64 ((v10 2) 1)), .pv (.int .i64 ((v10 2) 2)), .pv (.int .i64 ((v10 2) 3)), .pv (.int .i64 ((v10 2) 4)), .pv (.int .i64 ((v10 2) 5)), .pv (.int .i64 ((v10 2) 6)), .pv (.int .i64 ((v10 3) 0)), .pv (.int .i64 ((v10 3) 1)), .pv (.int .i64 ((v10 3) 2)), .pv (.int .i64 ((v10 3) 3)), .pv (.int .i64 ((v10 3) 4)), .pv (.int .i64 ((v10 3) 5)), .pv (.int .i64 ((v10 3) 6)), .pv (.int .i64 ((v10 4) 0)), .pv (.int .i64 ((v10 4) 1)), .pv (.int .i64 ((v10 4) 2)), .pv (.int .i64 ((v10 4) 3)), .pv (.int .i64 ((v10 4) 4)), .pv (.int .i64 ((v10 4) 5)), .pv (.int .i64 ((v10 4) 6)), .pv (.int .i64 ((v10 5) 0)), .pv (.int .i64 ((v10 5) 1)), .pv (.int .i64 ((v10 5) 2)), .pv (.int .i64 ((v10 5) 3)), .pv (.int .i64 ((v10 5) 4)), .pv (.int .i64 ((v10 5) 5)), .pv (.int .i64 ((v10 5) 6)), .pv (.int .i64 ((v10 6) 0)), .pv (.int .i64 ((v10 6) 1)), .pv (.int .i64 ((v10 6) 2)), .pv (.int .i64 ((v10 6) 3)), .pv (.int .i64 ((v10 6) 4)), .pv (.int .i64 ((v10 6) 5)), .pv (.int .i64 ((v10 6) 6))]) (wm [0, 0, 0, 0, 0, 0, 0, 80, 240, 496, 1020, 0, 2049, 8191, 16383]) 14 rfl (by kernel_rfl) (by kernel_rfl) (by kernel_rfl) (by kernel_rfl) (by kernel_rfl) (gi0 rfl) (oL [] rfl (by kernel_rfl) (fl_lt (ia_boxD rfl u59 ty3 rfl rfl k14)) (oL [] rfl (by kernel_rfl) (fl_lt (ia_boxD rfl u60 ty59 rfl rfl k13)) (oE tbok [] 1 (by kernel_rfl) (oL [] rfl (by kernel_rfl) (fl_callFn rfl rfl Tryz.call94 rfl (by kernel_rfl) (by kernel_rfl) (zone_Join_1_meets k12)) (oL [] rfl (by kernel_rfl) (fl_lt (lt_load_box rfl ty3 rfl rfl (at2 (e := (PV.int .i64)) (D2 := a1.D) (pre := [.int .i64 a1.N, .bool a1.None]) (post := []) (n1 := 7) (n2 := 7) (by kernel_rfl) (inA_lt k9) (inA_lt k10)))) (oL [] rfl (by kernel_rfl) (fl_lt (ia_boxD rfl u59 ty3 rfl rfl k10)) (oL [] rfl (by kernel_rfl) (fl_lt (ia_boxD rfl u60 ty59 rfl rfl k9)) (oE tbok [] 7 (by kernel_rfl) trivial)))))))) rfl rfl ty3 rfl rfl rfl rfl rfl (fit2 (e := (PV.int .i64)) (D2 := x3.2.D) (pre := [.int .i64 x3.2.N, .bool x3.2.None]) (post := []) (n1 := 7) (n2 := 7) (by kernel_rfl) (inA_lt k13) (inA_lt k14)) (put2 (e := (PV.int .i64)) (D2 := x3.2.D) (pre := [.int .i64 x3.2.N, .bool x3.2.None]) (post := []) (n1 := 7) (n2 := 7) (by kernel_rfl) (inA_lt k13) (inA_lt k14) (retE k15) (by kernel_rfl)) (SetAt.eq .z) ?_
                refine d_endS (env2 := [(2, [.fn (.func 94) [] []]), (3, [.c (.box 0 0)]), (4, [.c (.box 1 0)]), (6, [.c (.box 2 0)]), (7, [.c (.pv (.int .i64 x2.1))]), (26, [.agg (bs (e_T60 a0.D))]), (27, [.c (.pv (.int .i64 x2.1))]), (31, [.agg (bs (e_T59 (a0.D v2)))]), (32, [.c (.pv (.int .i64 x3.1))])]) (wm [0, 0, 0, 0, 0, 0, 0, 80, 240, 496, 1020, 0, 2049, 8191, 16383]) (by kernel_rfl) (by kernel_rfl) (by kernel_rfl) (oN 15 (by kernel_rfl) trivial) (sub_cons rfl (sub_cons rfl (sub_cons rfl (sub_cons rfl (sub_cons rfl (sub_cons rfl (sub_cons rfl (sub_cons rfl (sub_cons rfl sub_nil))))))))) (wB wT) ?_
                refine bN ?_
                refine then_ ?_
                refine region_ ?_
                refine R tbok 2 [32, 2, 3, 4, 6, 7, 26, 27, 31] [(32, [.c (.pv (.int .i64 (IntKind.i64.wrap (x3.1 + 1))))]), (2, [.fn (.func 94) [] []]), (3, [.c (.box 0 0)]), (4, [.c (.box 1 0)]), (6, [.c (.box 2 0)]), (7, [.c (.pv (.int .i64 x2.1))]), (26, [.agg (bs (e_T60 a0.D))]), (27, [.c (.pv (.int .i64 x2.1))]), (31, [.agg (bs (e_T59 (a0.D v2)))])] (by kernel_rfl) ?_
                refine ops_nil ?_
                obtain rfl := retE h
                refine lN ?_
                refine w_sub (env' := [(2, [.fn (.func 94) [] []]), (3, [.c (.box 0 0)]), (4, [.c (.box 1 0)]), (6, [.c (.box 2 0)]), (7, [.c (.pv (.int .i64 x2.1))]), (26, [.agg (bs (e_T60 a0.D))]), (27, [.c (.pv (.int .i64 x2.1))]), (31, [.agg (bs (e_T59 (a0.D v2)))]), (32, [.c (.pv (.int .i64 (IntKind.i64.wrap (x3.1 + 1))))])]) (sub_cons rfl (sub_cons rfl (sub_cons rfl (sub_cons rfl (sub_cons rfl (sub_cons rfl (sub_cons rfl (sub_cons rfl (sub_cons rfl sub_nil))))))))) ?_
                exact wkE (by kernel_rfl) (by kernel_rfl)
              · have h := iteF h k7
                refine exit_ ?_
                refine tX ?_
                obtain rfl := retE h
                refine lX ?_
                refine w_sub (env' := [(2, [.fn (.func 94) [] []]), (3, [.c (.box 0 0)]), (4, [.c (.box 1 0)]), (6, [.c (.box 2 0)]), (26, [.agg (bs (e_T60 a0.D))]), (27, [.c (.pv (.int .i64 x2.1))])]) (sub_cons rfl (sub_cons rfl (sub_cons rfl (sub_cons rfl (sub_cons rfl (sub_cons rfl sub_nil)))))) ?_
                refine w_cut 3 rfl rfl rfl rfl ?_
                exact wkE (by kernel_rfl) (by kernel_rfl)
            · cases h
            · have h := elimR h
              refine bN ?_
              refine then_ ?_
              refine region_ ?_
              refine R tbok 2 [27, 2, 3, 4, 6, 26] [(27, [.c (.pv (.int .i64 (IntKind.i64.wrap (x2.1 + 1))))]), (2, [.fn (.func 94) [] []]), (3, [.c (.box 0 0)]), (4, [.c (.box 1 0)]), (6, [.c (.box 2 0)]), (26, [.agg (bs (e_T60 a0.D))])] (by kernel_rfl) ?_
              refine ops_nil ?_
              obtain rfl := retE h
              refine lN ?_
              refine w_sub (env' := [(2, [.fn (.func 94) [] []]), (3, [.c (.box 0 0)]), (4, [.c (.box 1 0)]), (6, [.c (.box 2 0)]), (26, [.agg (bs (e_T60 a0.D))]), (27, [.c (.pv (.int .i64 (IntKind.i64.wrap (x2.1 + 1))))])]) (sub_cons rfl (sub_cons rfl (sub_cons rfl (sub_cons rfl (sub_cons rfl (sub_cons rfl sub_nil)))))) ?_
              exact wkE (by kernel_rfl) (by kernel_rfl)
          · have h := iteF h k5
            refine exit_ ?_
            refine tX ?_
            obtain rfl := retE h
            refine lX ?_
            refine w_sub (env' := [(3, [.c (.box 0 0)]), (6, [.c (.box 2 0)])]) (sub_cons rfl (sub_cons rfl sub_nil)) ?_
            refine w_none 1 (.s .z) ?_
            exact wkE (by kernel_rfl) (by kernel_rfl)
        · cases h
        · have h := elimR h
          refine then_ ?_
          refine seq_ ?_
          refine region_ ?_
          refine R tbok 1 [52, 6] [(52, [.agg (bs (e_zone_Zone j2))]), (6, [.c (.box 2 0)])] (by kernel_rfl) ?_
          refine S rfl rfl rfl ty62 (by decide) rfl rfl rfl rfl rfl (.all rfl) (.s (.s .z)) ?_
          refine ops_nil ?_
          refine then_ ?_
          refine ret_ ?_
          obtain rfl := retE h
          refine rwr (rw_ (.cellA (ys := (bs (e_zone_Zone j2))) ty62 rfl rfl (by kernel_rfl) (by kernel_rfl) .nil) ?_)
          refine w_none 0 .z ?_
          refine w_none 2 (.s (.s .z)) ?_
          refine w_cut 0 rfl rfl rfl rfl ?_
          exact wkE (by kernel_rfl) (by kernel_rfl)

theorem zone_Join_meets {a0 : zone_Zone} {a1 : zone_Zone} {r : zone_Zone} (h : zone_Join a0 a1 = some r) : MeetsV Tryz.prog GG 50 [.agg (bs (e_zone_Zone a0)), .agg (bs (e_zone_Zone a1))] [.agg (bs (e_zone_Zone r))] := by
  refine MeetsS.toV (meetsW_of (st0 := []) (N := 8) r_zone_Join o_zone_Join r Tryz.func50 rfl rfl rfl (by dsimp only [argEnv]) rfl ?_) rfl
  unfold zone_Join at h
  refine seq_ ?_
  refine region_ ?_
  refine B rfl rfl (bir_box rfl rfl rfl) rfl rfl .z ?_
  refine B rfl rfl (bir_box rfl rfl rfl) rfl rfl (.s .z) ?_
  refine B rfl rfl (bir_alloc rfl z62 rfl rfl) rfl rfl (.s (.s .z)) ?_
  refine ops_nil ?_
  refine then_ ?_
  refine seq_ ?_
  refine region_ ?_
  refine R tbok 2 [6, 5, 4] [(6, [.agg (bs (e_zone_Zone a1))]), (5, [.agg (bs (e_zone_Zone a0))]), (4, [.c (.box 2 0)])] (by kernel_rfl) ?_
  obtain ⟨v1, k1, h⟩ := bindE h
  refine C rfl rfl (fl_call rfl Tryz.call93 rfl (by kernel_rfl) (by kernel_rfl) (zone_both_zone_Join_1_meets k1)) rfl ?_
  refine S rfl rfl rfl ty62 (by decide) rfl rfl rfl rfl rfl (.all rfl) (.s (.s .z)) ?_
  refine ops_nil ?_
  refine then_ ?_
  refine ret_ ?_
  obtain rfl := retE h
  refine rwr (rw_ (.cellA (ys := (bs (e_zone_Zone v1))) ty62 rfl rfl (by kernel_rfl) (by kernel_rfl) .nil) ?_)
  refine w_none 0 .z ?_
  refine w_none 1 (.s .z) ?_
  refine w_none 2 (.s (.s .z)) ?_
  refine w_cut 0 rfl rfl rfl rfl ?_
  exact wkE (by kernel_rfl) (by kernel_rfl)

theorem num_Join_meets {a0 : num_Num} {a1 : num_Num} {r : num_Num} (h : num_Join a0 a1 = some r) : MeetsV Tryz.prog GG 15 [.agg (bs (e_num_Num a0)), .agg (bs (e_num_Num a1))] [.agg (bs (e_num_Num r))] := by
  refine MeetsS.toV (meetsW_of (st0 := []) (N := 11) r_num_Join o_num_Join r Tryz.func15 rfl rfl rfl (by dsimp only [argEnv]) rfl ?_) rfl
  unfold num_Join at h
  refine seq_ ?_
  refine region_ ?_
  refine B rfl rfl (bir_box rfl rfl rfl) rfl rfl .z ?_
  refine B rfl rfl (bir_box rfl rfl rfl) rfl rfl (.s .z) ?_
  refine B rfl rfl (bir_alloc rfl z64 rfl rfl) rfl rfl (.s (.s .z)) ?_
  refine ops_nil ?_
  refine then_ ?_
  refine seq_ ?_
  refine region_ ?_
  refine R tbok 4 [8, 6, 4] [(8, [.agg (bs (e_zone_Zone a1.Z))]), (6, [.agg (bs (e_zone_Zone a0.Z))]), (4, [.c (.box 2 0)])] (by kernel_rfl) ?_
  obtain ⟨v1, k1, h⟩ := bindE h
  refine C rfl rfl (fl_call rfl Tryz.call50 rfl (by kernel_rfl) (by kernel_rfl) (zone_Join_meets k1)) rfl ?_
  obtain ⟨v2, k2, h⟩ := bindE h
  refine C rfl rfl (fl_call rfl Tryz.call49 rfl (by kernel_rfl) (by kernel_rfl) (num_of_meets k2)) rfl ?_
  refine S rfl rfl rfl ty64 (by decide) rfl rfl rfl rfl rfl (.all rfl) (.s (.s .z)) ?_
  refine ops_nil ?_
  refine then_ ?_
  refine ret_ ?_
  obtain rfl := retE h
  refine rwr (rw_ (.cellA (ys := (bs (e_num_Num v2))) ty64 rfl rfl (by kernel_rfl) (by kernel_rfl) .nil) ?_)
  refine w_none 0 .z ?_
  refine w_none 1 (.s .z) ?_
  refine w_none 2 (.s (.s .z)) ?_
  refine w_cut 0 rfl rfl rfl rfl ?_
  exact wkE (by kernel_rfl) (by kernel_rfl)

theorem trans_Empty_meets {a0 : trans_State} {r : Bool} (h : trans_Empty a0 = some r) : MeetsV Tryz.prog GG 18 [.agg (bs (e_trans_State a0))] [.c (.pv (.bool r))] := by
  refine MeetsS.toV (meetsW_of (st0 := []) (N := 6) r_trans_Empty o_trans_Empty r Tryz.func18 rfl rfl rfl (by dsimp only [argEnv]) rfl ?_) rfl
  unfold trans_Empty at h
  refine seq_ ?_
  refine region_ ?_
  refine B rfl rfl (bir_box rfl rfl rfl) rfl rfl .z ?_
  refine R tbok 1 [2, 1] [(2, [.c (.pv (.bool false))]), (1, [.c (.box 0 0)])] (by kernel_rfl) ?_
  refine ops_nil ?_
  refine then_ ?_
  refine seq_ ?_
  refine region_ ?_
  refine R tbok 4 [2] [(2, [.c (.pv (.bool a0.N.None))])] (by kernel_rfl) ?_
  refine ops_nil ?_
  refine then_ ?_
  refine ret_ ?_
  obtain rfl := retE h
  refine rwr (rw_ (.tmp rfl .nil) ?_)
  refine w_none 0 .z ?_
  refine w_cut 0 rfl rfl rfl rfl ?_
  exact wkE (by kernel_rfl) (by kernel_rfl)

theorem trans_None_meets {a0 : flow_Sys} {a1 : Int} {r : trans_State} (h : trans_None a0 a1 = some r) : MeetsV Tryz.prog GG 42 [.agg [.pv (.sl (List.map e_check_Chan a0.Chans)), .pv (.sl (List.map e_flow_Graph a0.Graphs)), .pv (.sl (List.map e_i64 a0.Vars))], .c (.pv (.int .i64 a1))] [.agg (bs (e_trans_State r))] := by
  refine MeetsS.toV (meetsW_of (st0 := []) (N := 29) r_trans_None o_trans_None r Tryz.func42 rfl rfl rfl (by dsimp only [argEnv]) rfl ?_) rfl
  unfold trans_None at h
  refine seq_ ?_
  refine region_ ?_
  refine B rfl rfl (bir_box rfl rfl rfl) rfl rfl .z ?_
  refine B rfl rfl (bir_alloc rfl z67 rfl rfl) rfl rfl (.s .z) ?_
  refine ops_nil ?_
  refine then_ ?_
  refine seq_ ?_
  refine region_ ?_
  refine R tbok 2 [7, 6, 4, 2] [(7, [.c (.pv (.int .i64 a1))]), (6, [.agg [.pv (.sl (List.map e_check_Chan a0.Chans)), .pv (.sl (List.map e_flow_Graph a0.Graphs)), .pv (.sl (List.map e_i64 a0.Vars))]]), (4, [.c (.box 1 0)]), (2, [.c (.box 0 0)])] (by kernel_rfl) ?_
  obtain ⟨v1, k1, h⟩ := bindE h
  refine C rfl rfl (fl_call rfl Tryz.call47 rfl (by kernel_rfl) (by kernel_rfl) (trans_vars_meets k1)) rfl ?_
  obtain ⟨v2, k2, h⟩ := bindE h
  refine C rfl rfl (fl_call rfl Tryz.call88 rfl (by kernel_rfl) (by kernel_rfl) (num_None_meets k2)) rfl ?_
  refine L rfl rfl (lt_build (cs := ([.pv (.bool v2.None), .pv (.sl (List.map e_itv_Itv v2.I)), .pv (.int .i64 v2.Z.N), .pv (.bool v2.Z.None)] ++ (bs (e_T60 v2.Z.D) ++ [.emp, .emp]))) rfl st67 rfl (by kernel_rfl)) rfl ?_
  refine B rfl rfl (bir_alloc rfl z67 rfl rfl) rfl rfl (.s (.s .z)) ?_
  refine S rfl rfl rfl ty67 (by decide) rfl rfl rfl rfl rfl (.all rfl) (.s (.s .z)) ?_
  refine ops_nil ?_
  refine then_ ?_
  refine seq_ ?_
  refine seq_ ?_
  refine region_ ?_
  refine R tbok 2 [12, 5, 4] [(12, [.c (.pv (.sl (List.map e_check_Chan a0.Chans)))]), (5, [.c (.box 2 0)]), (4, [.c (.box 1 0)])] (by kernel_rfl) ?_
  refine L rfl rfl (len_sl (e := e_check_Chan) rfl u37 rfl) rfl ?_
  refine R tbok 1 [14, 13, 5, 4] [(14, [.c (.pv (.int .i64 0))]), (13, [.c (.pv (.int .i64 (a0.Chans.length : Int)))]), (5, [.c (.box 2 0)]), (4, [.c (.box 1 0)])] (by kernel_rfl) ?_
  refine ops_nil ?_
  refine then_ ?_
  refine CodeT.weak (w_liftC 2 53 72 2 rfl rfl (.s (.s (.s (.s (.s (.s (.s (.s (.s (.s (.s (.s (.s (.s (.s (.s (.s (.s (.s (.s (.s (.s (.s (.s (.s (.s (.s (.s (.s (.s (.s (.s (.s (.s (.s (.s (.s (.s (.s (.s (.s (.s (.s (.s (.s (.s (.s (.s (.s (.s (.s (.s (.s .z))))))))))))))))))))))))))))))))))))))))))))))))))))) (.s (.s .z)) (.s (.s (.s .z))) (Weak.refl _)) ?_
  refine CodeT.weak (w_liftC 2 54 161 1 rfl rfl (.s (.s (.s (.s (.s (.s (.s (.s (.s (.s (.s (.s (.s (.s (.s (.s (.s (.s (.s (.s (.s (.s (.s (.s (.s (.s (.s (.s (.s (.s (.s (.s (.s (.s (.s (.s (.s (.s (.s (.s (.s (.s (.s (.s (.s (.s (.s (.s (.s (.s (.s (.s (.s (.s .z)))))))))))))))))))))))))))))))))))))))))))))))))))))) (.s (.s .z)) (.s (.s (.s (.s .z)))) (Weak.refl _)) ?_
  refine lp_ (Qr := RW Tryz.prog GG Tryz.f42 0 r_trans_None o_trans_None) (trans_None_l3 a0) (fun (x3 : (Int × trans_State × (List itv_Itv) × (List Int))) => (⟨29, 0, [(4, [.c (.box 1 0)]), (5, [.c (.box 2 0)]), (13, [.c (.pv (.int .i64 (a0.Chans.length : Int)))]), (14, [.c (.pv (.int .i64 x3.1))])], [none, some (.box true 67 ([.pv (.bool false), .emp, .pv (.int .i64 0), .pv (.bool false)] ++ (bs (e_T60 (arr (arr 0 []) [(arr 0 [0, 0, 0, 0, 0, 0, 0]), (arr 0 [0, 0, 0, 0, 0, 0, 0]), (arr 0 [0, 0, 0, 0, 0, 0, 0]), (arr 0 [0, 0, 0, 0, 0, 0, 0]), (arr 0 [0, 0, 0, 0, 0, 0, 0]), (arr 0 [0, 0, 0, 0, 0, 0, 0]), (arr 0 [0, 0, 0, 0, 0, 0, 0])])) ++ [.emp, .emp]))), some (.box true 67 ([.pv (.bool x3.2.1.N.None), .pv (.sl (List.map e_itv_Itv x3.2.1.N.I)), .pv (.int .i64 x3.2.1.N.Z.N), .pv (.bool x3.2.1.N.Z.None)] ++ (bs (e_T60 x3.2.1.N.Z.D) ++ [.row 3, .row 4]))), some (.row true true 72 2 (List.map e_itv_Itv x3.2.2.1)), some (.row true true 161 1 (List.map e_rule_Set x3.2.2.2))]⟩ : Sx)) (fun (j3 : (trans_State × (List itv_Itv) × (List Int))) => (⟨29, 0, [(4, [.c (.box 1 0)]), (5, [.c (.box 2 0)])], [none, some (.box true 67 ([.pv (.bool false), .emp, .pv (.int .i64 0), .pv (.bool false)] ++ (bs (e_T60 (arr (arr 0 []) [(arr 0 [0, 0, 0, 0, 0, 0, 0]), (arr 0 [0, 0, 0, 0, 0, 0, 0]), (arr 0 [0, 0, 0, 0, 0, 0, 0]), (arr 0 [0, 0, 0, 0, 0, 0, 0]), (arr 0 [0, 0, 0, 0, 0, 0, 0]), (arr 0 [0, 0, 0, 0, 0, 0, 0]), (arr 0 [0, 0, 0, 0, 0, 0, 0])])) ++ [.emp, .emp]))), some (.box true 67 ([.pv (.bool j3.1.N.None), .pv (.sl (List.map e_itv_Itv j3.1.N.I)), .pv (.int .i64 j3.1.N.Z.N), .pv (.bool j3.1.N.Z.None)] ++ (bs (e_T60 j3.1.N.Z.D) ++ [.row 3, .row 4]))), some (.row true true 72 2 (List.map e_itv_Itv j3.2.1)), some (.row true true 161 1 (List.map e_rule_Set j3.2.2))]⟩ : Sx)) (0, (trans_State.mk v2 [] []), [], []) RW.only h wT ?_ (fun x3 o h => ?_) (fun r h s' hs => ?_) (fun j3 h => ?_)
  · refine w_sub (env' := [(4, [.c (.box 1 0)]), (5, [.c (.box 2 0)]), (13, [.c (.pv (.int .i64 (a0.Chans.length : Int)))]), (14, [.c (.pv (.int .i64 0))])]) (sub_cons rfl (sub_cons rfl (sub_cons rfl (sub_cons rfl sub_nil)))) ?_
    refine w_none 0 .z ?_
    refine w_ch 3 rfl (.s (.s (.s .z))) ?_
    refine w_ch 4 rfl (.s (.s (.s (.s .z)))) ?_
    exact wkE (by kernel_rfl) (by kernel_rfl)
  · unfold trans_None_l3 at h
    refine seq_ ?_
    refine region_ ?_
    refine R tbok 1 [15, 4, 5, 13, 14] [(15, [.c (.pv (.bool (decide (x3.1 < (a0.Chans.length : Int)))))]), (4, [.c (.box 1 0)]), (5, [.c (.box 2 0)]), (13, [.c (.pv (.int .i64 (a0.Chans.length : Int)))]), (14, [.c (.pv (.int .i64 x3.1))])] (by kernel_rfl) ?_
    refine ops_nil ?_
    refine then_ ?_
    refine seq_ ?_
    refine cond_ (b := (decide (x3.1 < (a0.Chans.length : Int)))) rfl (fun k3 => ?_) (fun k3 => ?_)
    · have h := iteT h k3
      refine skip_ ?_
      refine then_ ?_
      refine seq_ ?_
      refine block_ ?_
      refine drawn_ mixed ?_
      refine dl (t := 16) 0 [.c (.box 2 53)] rfl ?_
      refine dl (t := 17) 1 [.c (.row 3)] rfl ?_
      obtain ⟨v4, k5, h⟩ := bindE h
      refine dl (t := 18) 2 [.agg [.pv (.int .i64 v4.Lo), .pv (.int .i64 v4.Hi)]] rfl ?_
      refine dl (t := 19) 3 [.c (.pv (.sl (List.map e_itv_Itv [v4])))] rfl ?_
      refine dl (t := 21) 5 [.c (.box 2 54)] rfl ?_
      refine dl (t := 22) 6 [.c (.row 4)] rfl ?_
      refine dl (t := 23) 7 [.c (.pv (.sl (List.map e_rule_Set [0])))] rfl ?_
      obtain ⟨v5, k6, h⟩ := bindE h
      refine d_append (env1 := [(15, [.c (.pv (.bool (decide (x3.1 < (a0.Chans.length : Int)))))]), (4, [.c (.box 1 0)]), (5, [.c (.box 2 0)]), (13, [.c (.pv (.int .i64 (a0.Chans.length : Int)))]), (14, [.c (.pv (.int .i64 x3.1))])]) (T1 := [⟨7, some 23, [.c (.pv (.sl (List.map e_rule_Set [0])))], .light⟩, ⟨6, some 22, [.c (.row 4)], .light⟩, ⟨5, some 21, [.c (.box 2 54)], .light⟩, ⟨3, some 19, [.c (.pv (.sl (List.map e_itv_Itv [v4])))], .light⟩, ⟨2, some 18, [.agg [.pv (.int .i64 v4.Lo), .pv (.int .i64 v4.Hi)]], .light⟩, ⟨1, some 17, [.c (.any)], .light⟩, ⟨0, some 16, [.c (.box 2 53)], .light⟩]) (st' := [none, some (.box true 67 ([.pv (.bool false), .emp, .pv (.int .i64 0), .pv (.bool false)] ++ (bs (e_T60 (arr (arr 0 []) [(arr 0 [0, 0, 0, 0, 0, 0, 0]), (arr 0 [0, 0, 0, 0, 0, 0, 0]), (arr 0 [0, 0, 0, 0, 0, 0, 0]), (arr 0 [0, 0, 0, 0, 0, 0, 0]), (arr 0 [0, 0, 0, 0, 0, 0, 0]), (arr 0 [0, 0, 0, 0, 0, 0, 0]), (arr 0 [0, 0, 0, 0, 0, 0, 0])])) ++ [.emp, .emp]))), some (.box true 67 ([.pv (.bool x3.2.1.N.None), .pv (.sl (List.map e_itv_Itv x3.2.1.N.I)), .pv (.int .i64 x3.2.1.N.Z.N), .pv (.bool x3.2.1.N.Z.None)] ++ (bs (e_T60 x3.2.1.N.Z.D) ++ [.any, .row 4]))), some (.row true true 72 2 (List.map e_itv_Itv v5)), some (.row true true 161 1 (List.map e_rule_Set x3.2.2.2))]) (wm [0, 1, 0, 4, 15, 0, 32, 0, 255, 127, 1023, 2047, 4095]) 4 rfl (by kernel_rfl) (by kernel_rfl) (by kernel_rfl) (by kernel_rfl) (by kernel_rfl) (gi0 rfl) (oL [] rfl (by kernel_rfl) (fl_slice (List.map e_rule_Set [0]) rfl sl65 rfl rfl rfl rfl rfl rfl rfl) (oE tbok [] 2 (by kernel_rfl) (oL [] rfl (by kernel_rfl) (fl_slice (List.map e_itv_Itv [v4]) rfl sl58 rfl rfl rfl rfl rfl rfl rfl) (oL [] rfl (by kernel_rfl) (fl_call rfl Tryz.call52 rfl (by kernel_rfl) (by kernel_rfl) (itv_None_meets k5)) (oE tbok [] 2 (by kernel_rfl) trivial))))) rfl rfl rfl u58 te72 (by decide) rfl rfl rfl (.sl _) (ys := List.map e_itv_Itv [v4]) rfl (app_len k6) rfl rfl (app_set (e := e_itv_Itv) k6 (by rfl)) ?_
      refine dl (t := 25) 9 [.c (.box 2 53)] rfl ?_
      obtain ⟨v6, k7, h⟩ := bindE h
      refine d_append (env1 := [(15, [.c (.pv (.bool (decide (x3.1 < (a0.Chans.length : Int)))))]), (4, [.c (.box 1 0)]), (5, [.c (.box 2 0)]), (13, [.c (.pv (.int .i64 (a0.Chans.length : Int)))]), (14, [.c (.pv (.int .i64 x3.1))])]) (T1 := [⟨9, some 25, [.c (.box 2 53)], .light⟩, ⟨4, some 20, [.c (.row 3)], .heavy⟩, ⟨7, some 23, [.c (.pv (.sl (List.map e_rule_Set [0])))], .light⟩, ⟨6, some 22, [.c (.any)], .light⟩, ⟨5, some 21, [.c (.box 2 54)], .light⟩, ⟨3, some 19, [.c (.pv (.sl (List.map e_itv_Itv [v4])))], .light⟩, ⟨2, some 18, [.agg [.pv (.int .i64 v4.Lo), .pv (.int .i64 v4.Hi)]], .light⟩, ⟨1, some 17, [.c (.any)], .light⟩, ⟨0, some 16, [.c (.box 2 53)], .light⟩]) (st' := [none, some (.box true 67 ([.pv (.bool false), .emp, .pv (.int .i64 0), .pv (.bool false)] ++ (bs (e_T60 (arr (arr 0 []) [(arr 0 [0, 0, 0, 0, 0, 0, 0]), (arr 0 [0, 0, 0, 0, 0, 0, 0]), (arr 0 [0, 0, 0, 0, 0, 0, 0]), (arr 0 [0, 0, 0, 0, 0, 0, 0]), (arr 0 [0, 0, 0, 0, 0, 0, 0]), (arr 0 [0, 0, 0, 0, 0, 0, 0]), (arr 0 [0, 0, 0, 0, 0, 0, 0])])) ++ [.emp, .emp]))), some (.box true 67 ([.pv (.bool x3.2.1.N.None), .pv (.sl (List.map e_itv_Itv x3.2.1.N.I)), .pv (.int .i64 x3.2.1.N.Z.N), .pv (.bool x3.2.1.N.Z.None)] ++ (bs (e_T60 x3.2.1.N.Z.D) ++ [.any, .any]))), some (.row true true 72 2 (List.map e_itv_Itv v5)), some (.row true true 161 1 (List.map e_rule_Set v6))]) (wm [0, 1, 0, 4, 15, 0, 32, 0, 255, 127, 1023, 2047, 4095]) 8 rfl (by kernel_rfl) (by kernel_rfl) (by kernel_rfl) (by kernel_rfl) (by kernel_rfl) (gi0 rfl) (oE tbok [] 1 (by kernel_rfl) (oN 1 (by kernel_rfl) (oL [] rfl (by kernel_rfl) (fl_slice (List.map e_rule_Set [0]) rfl sl65 rfl rfl rfl rfl rfl rfl rfl) (oE tbok [] 2 (by kernel_rfl) (oN 4 (by kernel_rfl) trivial))))) rfl rfl rfl u65 te161 (by decide) rfl rfl rfl (.sl _) (ys := List.map e_rule_Set [0]) rfl (app_len k7) rfl rfl (app_set (e := e_rule_Set) k7 (by rfl)) ?_
      refine d_store (cs' := ([.pv (.bool x3.2.1.N.None), .pv (.sl (List.map e_itv_Itv x3.2.1.N.I)), .pv (.int .i64 x3.2.1.N.Z.N), .pv (.bool x3.2.1.N.Z.None)] ++ (bs (e_T60 x3.2.1.N.Z.D) ++ [.row 3, .any]))) (wm [0, 1, 0, 4, 15, 0, 32, 0, 255, 127, 1023, 2047, 4095]) 10 rfl (by kernel_rfl) (by kernel_rfl) (by kernel_rfl) (by kernel_rfl) (by kernel_rfl) (gi0 rfl) (oN 1 (by kernel_rfl) (oE tbok [] 1 (by kernel_rfl) (oN 8 (by kernel_rfl) trivial))) rfl rfl ty58 rfl rfl rfl rfl rfl rfl (by kernel_rfl) (SetAt.eq (.s (.s .z))) ?_
      refine dl (t := 26) 11 [.c (.box 2 54)] rfl ?_
      obtain ⟨v7, k8, h⟩ := bindE h
      refine d_store (cs' := ([.pv (.bool v7.N.None), .pv (.sl (List.map e_itv_Itv v7.N.I)), .pv (.int .i64 v7.N.Z.N), .pv (.bool v7.N.Z.None)] ++ (bs (e_T60 v7.N.Z.D) ++ [.row 3, .row 4]))) (wm [0, 1, 0, 4, 15, 0, 32, 0, 255, 127, 1023, 2047, 4095]) 12 rfl (by kernel_rfl) (by kernel_rfl) (by kernel_rfl) (by kernel_rfl) (by kernel_rfl) (gi0 rfl) (oE tbok [] 1 (by kernel_rfl) (oN 11 (by kernel_rfl) trivial)) rfl rfl ty65 rfl rfl rfl rfl rfl rfl (by rw [← retE k8]; kernel_rfl) (SetAt.eq (.s (.s .z))) ?_
      refine d_endS (env2 := [(4, [.c (.box 1 0)]), (5, [.c (.box 2 0)]), (13, [.c (.pv (.int .i64 (a0.Chans.length : Int)))]), (14, [.c (.pv (.int .i64 x3.1))])]) (wm [0, 1, 0, 4, 15, 0, 32, 0, 255, 127, 1023, 2047, 4095]) (by kernel_rfl) (by kernel_rfl) (by kernel_rfl) (oN 13 (by kernel_rfl) trivial) (sub_cons rfl (sub_cons rfl (sub_cons rfl (sub_cons rfl sub_nil)))) (wB wT) ?_
      refine bN ?_
      refine then_ ?_
      refine region_ ?_
      refine R tbok 2 [14, 4, 5, 13] [(14, [.c (.pv (.int .i64 (IntKind.i64.wrap (x3.1 + 1))))]), (4, [.c (.box 1 0)]), (5, [.c (.box 2 0)]), (13, [.c (.pv (.int .i64 (a0.Chans.length : Int)))])] (by kernel_rfl) ?_
      refine ops_nil ?_
      obtain rfl := retE h
      refine lN ?_
      refine w_sub (env' := [(4, [.c (.box 1 0)]), (5, [.c (.box 2 0)]), (13, [.c (.pv (.int .i64 (a0.Chans.length : Int)))]), (14, [.c (.pv (.int .i64 (IntKind.i64.wrap (x3.1 + 1))))])]) (sub_cons rfl (sub_cons rfl (sub_cons rfl (sub_cons rfl sub_nil)))) ?_
      exact wkE (by kernel_rfl) (by kernel_rfl)
    · have h := iteF h k3
      refine exit_ ?_
      refine tX ?_
      obtain rfl := retE h
      refine lX ?_
      refine w_sub (env' := [(4, [.c (.box 1 0)]), (5, [.c (.box 2 0)])]) (sub_cons rfl (sub_cons rfl sub_nil)) ?_
      exact wkE (by kernel_rfl) (by kernel_rfl)
  · cases h
  · have h := elimR h
    refine then_ ?_
    refine seq_ ?_
    refine region_ ?_
    refine R tbok 1 [28, 4] [(28, [.agg ([.pv (.bool j3.1.N.None), .pv (.sl (List.map e_itv_Itv j3.1.N.I)), .pv (.int .i64 j3.1.N.Z.N), .pv (.bool j3.1.N.Z.None)] ++ (bs (e_T60 j3.1.N.Z.D) ++ [.row 3, .row 4]))]), (4, [.c (.box 1 0)])] (by kernel_rfl) ?_
    refine S rfl rfl rfl ty67 (by decide) rfl rfl rfl rfl rfl (.all rfl) (.s .z) ?_
    refine ops_nil ?_
    refine then_ ?_
    refine ret_ ?_
    obtain rfl := retE h
    refine rwr (rw_ (.cellA (ys := ([.pv (.bool j3.1.N.None), .pv (.sl (List.map e_itv_Itv j3.1.N.I)), .pv (.int .i64 j3.1.N.Z.N), .pv (.bool j3.1.N.Z.None)] ++ (bs (e_T60 j3.1.N.Z.D) ++ [.row 3, .row 4]))) ty67 rfl rfl (by kernel_rfl) (by kernel_rfl) .nil) ?_)
    refine (w_freeze (b := 3) (env' := [(0, [.agg ([.pv (.bool j3.1.N.None), .pv (.sl (List.map e_itv_Itv j3.1.N.I)), .pv (.int .i64 j3.1.N.Z.N), .pv (.bool j3.1.N.Z.None)] ++ (bs (e_T60 j3.1.N.Z.D) ++ [.pv (.sl (List.map e_itv_Itv j3.2.1)), .row 4]))])]) (st' := [none, some (.box true 67 ([.pv (.bool j3.1.N.None), .pv (.sl (List.map e_itv_Itv j3.1.N.I)), .pv (.int .i64 j3.1.N.Z.N), .pv (.bool j3.1.N.Z.None)] ++ (bs (e_T60 j3.1.N.Z.D) ++ [.pv (.sl (List.map e_itv_Itv j3.2.1)), .row 4]))), some (.box true 67 ([.pv (.bool j3.1.N.None), .pv (.sl (List.map e_itv_Itv j3.1.N.I)), .pv (.int .i64 j3.1.N.Z.N), .pv (.bool j3.1.N.Z.None)] ++ (bs (e_T60 j3.1.N.Z.D) ++ [.pv (.sl (List.map e_itv_Itv j3.2.1)), .row 4]))), none, some (.row true true 161 1 (List.map e_rule_Set j3.2.2))]) rfl rfl rfl ?_)
    refine (w_freeze (b := 4) (env' := [(0, [.agg (bs (e_trans_State (trans_State.mk j3.1.N j3.2.1 j3.2.2)))])]) (st' := [none, some (.box true 67 (bs (e_trans_State (trans_State.mk j3.1.N j3.2.1 j3.2.2)))), some (.box true 67 (bs (e_trans_State (trans_State.mk j3.1.N j3.2.1 j3.2.2)))), none, none]) rfl rfl rfl ?_)
    refine w_none 1 (.s .z) ?_
    refine w_none 2 (.s (.s .z)) ?_
    refine w_cut 0 rfl rfl rfl rfl ?_
    exact wkE (by kernel_rfl) (by kernel_rfl)

theorem flow_Out_meets {a0 : flow_Graph} {a1 : Int} {r : (List Int)} (h : flow_Out a0 a1 = some r) : MeetsV Tryz.prog GG 53 [.agg [.pv (.int .i64 a0.Nodes), .pv (.sl (List.map e_flow_Edge a0.Edges)), .pv (.sl (List.map e_i64 a0.Heads))], .c (.pv (.int .i64 a1))] [.c (.pv (.sl (List.map e_i64 r)))] := by
  refine MeetsS.toV (meetsW_of (st0 := []) (N := 26) r_flow_Out o_flow_Out r Tryz.func53 rfl rfl rfl (by dsimp only [argEnv]) rfl ?_) rfl
  unfold flow_Out at h
  refine seq_ ?_
  refine region_ ?_
  refine B rfl rfl (bir_box rfl rfl rfl) rfl rfl .z ?_
  refine R tbok 1 [4, 2, 1] [(4, [.c (.emp)]), (2, [.c (.box 0 0)]), (1, [.c (.pv (.int .i64 a1))])] (by kernel_rfl) ?_
  refine ops_nil ?_
  refine then_ ?_
  refine seq_ ?_
  refine region_ ?_
  refine R tbok 1 [5, 4, 2, 1] [(5, [.c (.emp)]), (4, [.c (.emp)]), (2, [.c (.box 0 0)]), (1, [.c (.pv (.int .i64 a1))])] (by kernel_rfl) ?_
  refine ops_nil ?_
  refine then_ ?_
  refine seq_ ?_
  refine seq_ ?_
  refine region_ ?_
  refine R tbok 2 [9, 5, 4, 1] [(9, [.c (.pv (.sl (List.map e_flow_Edge a0.Edges)))]), (5, [.c (.emp)]), (4, [.c (.emp)]), (1, [.c (.pv (.int .i64 a1))])] (by kernel_rfl) ?_
  refine L rfl rfl (len_sl (e := e_flow_Edge) rfl u55 rfl) rfl ?_
  refine R tbok 1 [11, 10, 9, 5, 4, 1] [(11, [.c (.pv (.int .i64 0))]), (10, [.c (.pv (.int .i64 (a0.Edges.length : Int)))]), (9, [.c (.pv (.sl (List.map e_flow_Edge a0.Edges)))]), (5, [.c (.emp)]), (4, [.c (.emp)]), (1, [.c (.pv (.int .i64 a1))])] (by kernel_rfl) ?_
  refine ops_nil ?_
  refine then_ ?_
  refine CodeT.weak (w_lift 5 3 1 rfl (.s .z) (Weak.refl _)) ?_
  refine lp_ (Qr := RW Tryz.prog GG Tryz.f53 0 r_flow_Out o_flow_Out) (flow_Out_l2 a0 a1) (fun (x2 : (Int × (List Int))) => (⟨26, 0, [(1, [.c (.pv (.int .i64 a1))]), (5, [.c (.row 1)]), (9, [.c (.pv (.sl (List.map e_flow_Edge a0.Edges)))]), (10, [.c (.pv (.int .i64 (a0.Edges.length : Int)))]), (11, [.c (.pv (.int .i64 x2.1))])], [none, some (.row true true 3 1 (List.map e_i64 x2.2))]⟩ : Sx)) (fun (j2 : (List Int)) => (⟨26, 0, [(5, [.c (.row 1)])], [none, some (.row true true 3 1 (List.map e_i64 j2))]⟩ : Sx)) (0, []) RW.only h wT ?_ (fun x2 o h => ?_) (fun r h s' hs => ?_) (fun j2 h => ?_)
  · refine w_sub (env' := [(1, [.c (.pv (.int .i64 a1))]), (5, [.c (.row 1)]), (9, [.c (.pv (.sl (List.map e_flow_Edge a0.Edges)))]), (10, [.c (.pv (.int .i64 (a0.Edges.length : Int)))]), (11, [.c (.pv (.int .i64 0))])]) (sub_cons rfl (sub_cons rfl (sub_cons rfl (sub_cons rfl (sub_cons rfl sub_nil))))) ?_
    refine w_none 0 .z ?_
    refine w_ch 1 rfl (.s .z) ?_
    exact wkE (by kernel_rfl) (by kernel_rfl)
  · unfold flow_Out_l2 at h
    refine seq_ ?_
    refine region_ ?_
    refine R tbok 1 [12, 1, 5, 9, 10, 11] [(12, [.c (.pv (.bool (decide (x2.1 < (a0.Edges.length : Int)))))]), (1, [.c (.pv (.int .i64 a1))]), (5, [.c (.row 1)]), (9, [.c (.pv (.sl (List.map e_flow_Edge a0.Edges)))]), (10, [.c (.pv (.int .i64 (a0.Edges.length : Int)))]), (11, [.c (.pv (.int .i64 x2.1))])] (by kernel_rfl) ?_
    refine ops_nil ?_
    refine then_ ?_
    refine seq_ ?_
    refine cond_ (b := (decide (x2.1 < (a0.Edges.length : Int)))) rfl (fun k1 => ?_) (fun k1 => ?_)
    · have h := iteT h k1
      refine skip_ ?_
      refine then_ ?_
      refine seq_ ?_
      refine jn_ (fun (j3 : (List Int)) => (⟨26, 0, [(1, [.c (.pv (.int .i64 a1))]), (5, [.c (.row 1)]), (9, [.c (.pv (.sl (List.map e_flow_Edge a0.Edges)))]), (10, [.c (.pv (.int .i64 (a0.Edges.length : Int)))]), (11, [.c (.pv (.int .i64 x2.1))])], [none, some (.row true true 3 1 (List.map e_i64 j3))]⟩ : Sx)) h wT (fun o h => ?_) (fun j3 h => ?_)
      · refine block_ ?_
        refine seq_ ?_
        refine region_ ?_
        refine R tbok 1 [13, 1, 5, 9, 10, 11] [(13, [.c (.pv (.int .i64 x2.1))]), (1, [.c (.pv (.int .i64 a1))]), (5, [.c (.row 1)]), (9, [.c (.pv (.sl (List.map e_flow_Edge a0.Edges)))]), (10, [.c (.pv (.int .i64 (a0.Edges.length : Int)))]), (11, [.c (.pv (.int .i64 x2.1))])] (by kernel_rfl) ?_
        obtain ⟨v1, k2, h⟩ := bindE h
        refine L rfl rfl (ia_sl (e := e_flow_Edge) (y := v1) rfl u55 ty54 rfl rfl k2 rfl) rfl ?_
        refine R tbok 1 [15, 13, 1, 5, 9, 10, 11] [(15, [.agg (bs (e_flow_Edge v1))]), (13, [.c (.pv (.int .i64 x2.1))]), (1, [.c (.pv (.int .i64 a1))]), (5, [.c (.row 1)]), (9, [.c (.pv (.sl (List.map e_flow_Edge a0.Edges)))]), (10, [.c (.pv (.int .i64 (a0.Edges.length : Int)))]), (11, [.c (.pv (.int .i64 x2.1))])] (by kernel_rfl) ?_
        refine B rfl rfl (bir_alloc rfl z54 rfl rfl) rfl rfl (.s (.s .z)) ?_
        refine R tbok 1 [6, 7, 15, 1, 5, 9, 10, 11] [(6, [.c (.pv (.int .i64 x2.1))]), (7, [.c (.box 2 0)]), (15, [.agg (bs (e_flow_Edge v1))]), (1, [.c (.pv (.int .i64 a1))]), (5, [.c (.row 1)]), (9, [.c (.pv (.sl (List.map e_flow_Edge a0.Edges)))]), (10, [.c (.pv (.int .i64 (a0.Edges.length : Int)))]), (11, [.c (.pv (.int .i64 x2.1))])] (by kernel_rfl) ?_
        refine S rfl rfl rfl ty54 (by decide) rfl rfl rfl rfl rfl (.all rfl) (.s (.s .z)) ?_
        refine ops_nil ?_
        refine then_ ?_
        refine seq_ ?_
        refine region_ ?_
        refine R tbok 4 [19, 6, 1, 5, 9, 10, 11] [(19, [.c (.pv (.bool (v1.From == a1)))]), (6, [.c (.pv (.int .i64 x2.1))]), (1, [.c (.pv (.int .i64 a1))]), (5, [.c (.row 1)]), (9, [.c (.pv (.sl (List.map e_flow_Edge a0.Edges)))]), (10, [.c (.pv (.int .i64 (a0.Edges.length : Int)))]), (11, [.c (.pv (.int .i64 x2.1))])] (by kernel_rfl) ?_
        refine ops_nil ?_
        refine then_ ?_
        refine cond_ (b := (v1.From == a1)) rfl (fun k3 => ?_) (fun k3 => ?_)
        · have h := iteT h k3
          refine region_ ?_
          refine R tbok 2 [21, 20, 1, 5, 9, 10, 11] [(21, [.c (.pv (.int .i64 x2.1))]), (20, [.c (.row 1)]), (1, [.c (.pv (.int .i64 a1))]), (5, [.c (.row 1)]), (9, [.c (.pv (.sl (List.map e_flow_Edge a0.Edges)))]), (10, [.c (.pv (.int .i64 (a0.Edges.length : Int)))]), (11, [.c (.pv (.int .i64 x2.1))])] (by kernel_rfl) ?_
          refine C rfl rfl (fl_slice (List.map e_i64 [x2.1]) rfl sl29 rfl rfl rfl rfl rfl rfl rfl) rfl ?_
          obtain ⟨v2, k4, h⟩ := bindE h
          refine app_ (e := e_i64) (M := [x2.1]) (env' := [(22, [.c (.pv (.sl (List.map e_i64 [x2.1])))]), (21, [.c (.pv (.int .i64 x2.1))]), (20, [.c (.any)]), (1, [.c (.pv (.int .i64 a1))]), (5, [.c (.any)]), (9, [.c (.pv (.sl (List.map e_flow_Edge a0.Edges)))]), (10, [.c (.pv (.int .i64 (a0.Edges.length : Int)))]), (11, [.c (.pv (.int .i64 x2.1))])]) (st' := [none, some (.row true true 3 1 (List.map e_i64 v2)), some (.box true 54 (bs (e_flow_Edge v1)))]) rfl rfl rfl rfl u29 te3 (by decide) rfl rfl rfl (.sl _) (fun _ => rfl) k4 rfl rfl ?_
          refine R tbok 1 [5, 1, 9, 10, 11] [(5, [.c (.row 1)]), (1, [.c (.pv (.int .i64 a1))]), (9, [.c (.pv (.sl (List.map e_flow_Edge a0.Edges)))]), (10, [.c (.pv (.int .i64 (a0.Edges.length : Int)))]), (11, [.c (.pv (.int .i64 x2.1))])] (by kernel_rfl) ?_
          refine ops_nil ?_
          refine bN ?_
          obtain rfl := retE h
          refine mN ?_
          refine w_sub (env' := [(1, [.c (.pv (.int .i64 a1))]), (5, [.c (.row 1)]), (9, [.c (.pv (.sl (List.map e_flow_Edge a0.Edges)))]), (10, [.c (.pv (.int .i64 (a0.Edges.length : Int)))]), (11, [.c (.pv (.int .i64 x2.1))])]) (sub_cons rfl (sub_cons rfl (sub_cons rfl (sub_cons rfl (sub_cons rfl sub_nil))))) ?_
          refine w_cut 2 rfl rfl rfl rfl ?_
          exact wkE (by kernel_rfl) (by kernel_rfl)
        · have h := iteF h k3
          refine skip_ ?_
          refine bN ?_
          obtain rfl := retE h
          refine mN ?_
          refine w_sub (env' := [(1, [.c (.pv (.int .i64 a1))]), (5, [.c (.row 1)]), (9, [.c (.pv (.sl (List.map e_flow_Edge a0.Edges)))]), (10, [.c (.pv (.int .i64 (a0.Edges.length : Int)))]), (11, [.c (.pv (.int .i64 x2.1))])]) (sub_cons rfl (sub_cons rfl (sub_cons rfl (sub_cons rfl (sub_cons rfl sub_nil))))) ?_
          refine w_cut 2 rfl rfl rfl rfl ?_
          exact wkE (by kernel_rfl) (by kernel_rfl)
      · refine then_ ?_
        refine region_ ?_
        refine R tbok 2 [11, 1, 5, 9, 10] [(11, [.c (.pv (.int .i64 (IntKind.i64.wrap (x2.1 + 1))))]), (1, [.c (.pv (.int .i64 a1))]), (5, [.c (.row 1)]), (9, [.c (.pv (.sl (List.map e_flow_Edge a0.Edges)))]), (10, [.c (.pv (.int .i64 (a0.Edges.length : Int)))])] (by kernel_rfl) ?_
        refine ops_nil ?_
        obtain rfl := retE h
        refine lN ?_
        refine w_sub (env' := [(1, [.c (.pv (.int .i64 a1))]), (5, [.c (.row 1)]), (9, [.c (.pv (.sl (List.map e_flow_Edge a0.Edges)))]), (10, [.c (.pv (.int .i64 (a0.Edges.length : Int)))]), (11, [.c (.pv (.int .i64 (IntKind.i64.wrap (x2.1 + 1))))])]) (sub_cons rfl (sub_cons rfl (sub_cons rfl (sub_cons rfl (sub_cons rfl sub_nil))))) ?_
        exact wkE (by kernel_rfl) (by kernel_rfl)
    · have h := iteF h k1
      refine exit_ ?_
      refine tX ?_
      obtain rfl := retE h
      refine lX ?_
      refine w_sub (env' := [(5, [.c (.row 1)])]) (sub_cons rfl sub_nil) ?_
      exact wkE (by kernel_rfl) (by kernel_rfl)
  · cases h
  · have h := elimR h
    refine then_ ?_
    refine seq_ ?_
    refine region_ ?_
    refine R tbok 2 [4] [(4, [.c (.row 1)])] (by kernel_rfl) ?_
    refine ops_nil ?_
    refine then_ ?_
    refine ret_ ?_
    obtain rfl := retE h
    refine rwr (rw_ (.tmp rfl .nil) ?_)
    refine (w_freeze (b := 1) (env' := [(0, [.c (.pv (.sl (List.map e_i64 j2)))])]) (st' := [none, none]) rfl rfl rfl ?_)
    refine w_cut 0 rfl rfl rfl rfl ?_
    exact wkE (by kernel_rfl) (by kernel_rfl)

theorem itv_Itv__meets {a0 : (List itv_Itv)} {r : (List itv_Itv)} (h : itv_Itv_ a0 = some r) : MeetsS Tryz.prog GG 97 [.c (.pv (.sl (List.map e_itv_Itv a0)))] [] [.c (.row 0)] [some (.row true true 72 2 (List.map e_itv_Itv r))] := by
  refine meetsW_of (N := 8) r_itv_Itv_ o_itv_Itv_ r Tryz.func97 rfl rfl rfl (by dsimp only [argEnv]) rfl ?_
  unfold itv_Itv_ at h
  refine seq_ ?_
  refine region_ ?_
  refine R tbok 1 [2, 0] [(2, [.c (.emp)]), (0, [.c (.pv (.sl (List.map e_itv_Itv a0)))])] (by kernel_rfl) ?_
  refine ops_nil ?_
  refine then_ ?_
  refine seq_ ?_
  refine seq_ ?_
  refine region_ ?_
  refine R tbok 1 [3, 2, 0] [(3, [.c (.pv (.sl (List.map e_itv_Itv a0)))]), (2, [.c (.emp)]), (0, [.c (.pv (.sl (List.map e_itv_Itv a0)))])] (by kernel_rfl) ?_
  refine opsNil rfl rfl rfl rfl u58 rfl (fun q8 wq8 => ?_)
  refine ops_nil ?_
  refine then_ ?_
  refine cond_ (b := q8) rfl (fun k1 => ?_) (fun k1 => ?_)
  · have e := List.map_eq_nil_iff.1 (wq8 k1)
    have h : (some []) = some r := by subst e; simpa [app] using h
    refine seq_ ?_
    refine region_ ?_
    refine R tbok 1 [2, 0] [(2, [.c (.emp)]), (0, [.c (.pv (.sl (List.map e_itv_Itv a0)))])] (by kernel_rfl) ?_
    refine ops_nil ?_
    refine then_ ?_
    refine ret_ ?_
    obtain rfl := retE h
    refine tR (rwr (rw_ (.tmp rfl .nil) ?_))
    refine w_lift 0 72 2 rfl .z ?_
    refine w_sub (env' := [(0, [.c (.row 0)])]) (sub_cons rfl sub_nil) ?_
    refine w_ch 0 rfl .z ?_
    exact wkE (by kernel_rfl) (by kernel_rfl)
  · refine skip_ ?_
    refine then_ ?_
    refine seq_ ?_
    refine region_ ?_
    refine B rfl rfl (bir_slice (List.map e_itv_Itv []) rfl sl58 rfl rfl rfl rfl rfl rfl rfl rfl) rfl rfl .z ?_
    refine R tbok 1 [6, 5, 2] [(6, [.c (.pv (.sl (List.map e_itv_Itv a0)))]), (5, [.c (.row 0)]), (2, [.c (.emp)])] (by kernel_rfl) ?_
    obtain ⟨v1, k2, h⟩ := bindE h
    refine app_ (e := e_itv_Itv) (M := a0) (env' := [(6, [.c (.pv (.sl (List.map e_itv_Itv a0)))]), (5, [.c (.any)]), (2, [.c (.emp)])]) (st' := [some (.row true true 72 2 (List.map e_itv_Itv v1))]) rfl rfl rfl rfl u58 te72 (by decide) rfl rfl rfl (.sl _) (fun _ => rfl) k2 rfl rfl ?_
    refine R tbok 1 [2] [(2, [.c (.row 0)])] (by kernel_rfl) ?_
    refine ops_nil ?_
    refine then_ ?_
    refine ret_ ?_
    obtain rfl := retE h
    refine rwr (rw_ (.tmp rfl .nil) ?_)
    exact wkE (by kernel_rfl) (by kernel_rfl)

theorem rule_Set__meets {a0 : (List Int)} {r : (List Int)} (h : rule_Set_ a0 = some r) : MeetsS Tryz.prog GG 98 [.c (.pv (.sl (List.map e_rule_Set a0)))] [] [.c (.row 0)] [some (.row true true 161 1 (List.map e_rule_Set r))] := by
  refine meetsW_of (N := 8) r_rule_Set_ o_rule_Set_ r Tryz.func98 rfl rfl rfl (by dsimp only [argEnv]) rfl ?_
  unfold rule_Set_ at h
  refine seq_ ?_
  refine region_ ?_
  refine R tbok 1 [2, 0] [(2, [.c (.emp)]), (0, [.c (.pv (.sl (List.map e_rule_Set a0)))])] (by kernel_rfl) ?_
  refine ops_nil ?_
  refine then_ ?_
  refine seq_ ?_
  refine seq_ ?_
  refine region_ ?_
  refine R tbok 1 [3, 2, 0] [(3, [.c (.pv (.sl (List.map e_rule_Set a0)))]), (2, [.c (.emp)]), (0, [.c (.pv (.sl (List.map e_rule_Set a0)))])] (by kernel_rfl) ?_
  refine opsNil rfl rfl rfl rfl u65 rfl (fun q8 wq8 => ?_)
  refine ops_nil ?_
  refine then_ ?_
  refine cond_ (b := q8) rfl (fun k1 => ?_) (fun k1 => ?_)
  · have e := List.map_eq_nil_iff.1 (wq8 k1)
    have h : (some []) = some r := by subst e; simpa [app] using h
    refine seq_ ?_
    refine region_ ?_
    refine R tbok 1 [2, 0] [(2, [.c (.emp)]), (0, [.c (.pv (.sl (List.map e_rule_Set a0)))])] (by kernel_rfl) ?_
    refine ops_nil ?_
    refine then_ ?_
    refine ret_ ?_
    obtain rfl := retE h
    refine tR (rwr (rw_ (.tmp rfl .nil) ?_))
    refine w_lift 0 161 1 rfl .z ?_
    refine w_sub (env' := [(0, [.c (.row 0)])]) (sub_cons rfl sub_nil) ?_
    refine w_ch 0 rfl .z ?_
    exact wkE (by kernel_rfl) (by kernel_rfl)
  · refine skip_ ?_
    refine then_ ?_
    refine seq_ ?_
    refine region_ ?_
    refine B rfl rfl (bir_slice (List.map e_rule_Set []) rfl sl65 rfl rfl rfl rfl rfl rfl rfl rfl) rfl rfl .z ?_
    refine R tbok 1 [6, 5, 2] [(6, [.c (.pv (.sl (List.map e_rule_Set a0)))]), (5, [.c (.row 0)]), (2, [.c (.emp)])] (by kernel_rfl) ?_
    obtain ⟨v1, k2, h⟩ := bindE h
    refine app_ (e := e_rule_Set) (M := a0) (env' := [(6, [.c (.pv (.sl (List.map e_rule_Set a0)))]), (5, [.c (.any)]), (2, [.c (.emp)])]) (st' := [some (.row true true 161 1 (List.map e_rule_Set v1))]) rfl rfl rfl rfl u65 te161 (by decide) rfl rfl rfl (.sl _) (fun _ => rfl) k2 rfl rfl ?_
    refine R tbok 1 [2] [(2, [.c (.row 0)])] (by kernel_rfl) ?_
    refine ops_nil ?_
    refine then_ ?_
    refine ret_ ?_
    obtain rfl := retE h
    refine rwr (rw_ (.tmp rfl .nil) ?_)
    exact wkE (by kernel_rfl) (by kernel_rfl)
end Go.Proofs.YtbebnddalipfhaaGreat.Abs
