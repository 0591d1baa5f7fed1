/- Gb: the walks. -/
import Derived.Test.YtbebnddalipfhaaGbW2
namespace Go.Proofs.Ytbebnddalipfhaa.Abs
open Go Go.RowKit
set_option linter.unusedVariables false
set_option maxRecDepth 100000
set_option maxHeartbeats 4000000
theorem trans_stepper_kinds_meets {a0 : trans_stepper} {r : (List Int)} (h : trans_stepper_kinds a0 = some r) : MeetsS Try.prog GG 27 [.c (.box 0 0)] [some (.box false 94 (bs (e_trans_stepper a0)))] [.c (.pv (.sl (List.map e_i64 r)))] [some (.box false 94 (bs (e_trans_stepper a0)))] := by
  refine meetsW_of (N := 21) r_trans_stepper_kinds (o_trans_stepper_kinds a0) r Try.func27 rfl rfl rfl (by dsimp only [argEnv]) rfl ?_
  unfold trans_stepper_kinds at h
  refine seq_ ?_
  refine region_ ?_
  refine R tbok 1 [2, 0] [(2, [.c (.emp)]), (0, [.c (.box 0 0)])] (by kernel_rfl) ?_
  refine ops_nil ?_
  refine then_ ?_
  refine seq_ ?_
  refine region_ ?_
  refine R tbok 1 [3, 2, 0] [(3, [.c (.emp)]), (2, [.c (.emp)]), (0, [.c (.box 0 0)])] (by kernel_rfl) ?_
  refine ops_nil ?_
  refine then_ ?_
  refine seq_ ?_
  refine seq_ ?_
  refine region_ ?_
  refine R tbok 5 [10, 9, 3, 2] [(10, [.c (.pv (.int .i64 0))]), (9, [.agg (bs (e_T92 a0.f_errors))]), (3, [.c (.emp)]), (2, [.c (.emp)])] (by kernel_rfl) ?_
  refine ops_nil ?_
  refine then_ ?_
  refine CodeT.weak (w_lift 3 3 1 rfl (.s .z) (Weak.refl _)) ?_
  refine lp_ (Qr := RW Try.prog GG Try.f27 1 r_trans_stepper_kinds (o_trans_stepper_kinds a0)) (trans_stepper_kinds_l2 a0) (fun (x2 : (Int × (List Int))) => (⟨21, 1, [(3, [.c (.row 1)]), (9, [.agg (bs (e_T92 a0.f_errors))]), (10, [.c (.pv (.int .i64 x2.1))])], [some (.box false 94 (bs (e_trans_stepper a0))), some (.row true true 3 1 (List.map e_i64 x2.2))]⟩ : Sx)) (fun (j2 : (List Int)) => (⟨21, 1, [(3, [.c (.row 1)])], [some (.box false 94 (bs (e_trans_stepper a0))), some (.row true true 3 1 (List.map e_i64 j2))]⟩ : Sx)) (0, []) RW.only h wT ?_ (fun x2 o h => ?_) (fun r h s' hs => ?_) (fun j2 h => ?_)
  · refine w_sub (env' := [(3, [.c (.row 1)]), (9, [.agg (bs (e_T92 a0.f_errors))]), (10, [.c (.pv (.int .i64 0))])]) (sub_cons rfl (sub_cons rfl (sub_cons rfl sub_nil))) ?_
    refine w_ch 1 rfl (.s .z) ?_
    exact wkE (by kernel_rfl) (by kernel_rfl)
  · unfold trans_stepper_kinds_l2 at h
    refine seq_ ?_
    refine region_ ?_
    refine R tbok 1 [11, 3, 9, 10] [(11, [.c (.pv (.bool (decide (x2.1 < 7))))]), (3, [.c (.row 1)]), (9, [.agg (bs (e_T92 a0.f_errors))]), (10, [.c (.pv (.int .i64 x2.1))])] (by kernel_rfl) ?_
    refine ops_nil ?_
    refine then_ ?_
    refine seq_ ?_
    refine cond_ (b := (decide (x2.1 < 7))) rfl (fun k1 => ?_) (fun k1 => ?_)
    · have h := iteT h k1
      refine skip_ ?_
      refine then_ ?_
      refine seq_ ?_
      refine jn_ (fun (j3 : (List Int)) => (⟨21, 1, [(3, [.c (.row 1)]), (9, [.agg (bs (e_T92 a0.f_errors))]), (10, [.c (.pv (.int .i64 x2.1))])], [some (.box false 94 (bs (e_trans_stepper a0))), some (.row true true 3 1 (List.map e_i64 j3))]⟩ : Sx)) h wT (fun o h => ?_) (fun j3 h => ?_)
      · refine block_ ?_
        refine seq_ ?_
        refine region_ ?_
        refine R tbok 1 [12, 3, 9, 10] [(12, [.c (.pv (.int .i64 x2.1))]), (3, [.c (.row 1)]), (9, [.agg (bs (e_T92 a0.f_errors))]), (10, [.c (.pv (.int .i64 x2.1))])] (by kernel_rfl) ?_
        obtain ⟨v1, k2, h⟩ := bindE h
        refine L rfl rfl (ix1 (e := PV.bool) (D := a0.f_errors) rfl u92 ty4 rfl rfl (by kernel_rfl) k2) rfl ?_
        refine R tbok 2 [5, 4, 3, 9, 10] [(5, [.c (.pv (.bool (a0.f_errors v1)))]), (4, [.c (.pv (.int .i64 x2.1))]), (3, [.c (.row 1)]), (9, [.agg (bs (e_T92 a0.f_errors))]), (10, [.c (.pv (.int .i64 x2.1))])] (by kernel_rfl) ?_
        refine ops_nil ?_
        refine then_ ?_
        refine seq_ ?_
        refine region_ ?_
        refine R tbok 1 [14, 4, 3, 9, 10] [(14, [.c (.pv (.bool (a0.f_errors v1)))]), (4, [.c (.pv (.int .i64 x2.1))]), (3, [.c (.row 1)]), (9, [.agg (bs (e_T92 a0.f_errors))]), (10, [.c (.pv (.int .i64 x2.1))])] (by kernel_rfl) ?_
        refine ops_nil ?_
        refine then_ ?_
        refine cond_ (b := (a0.f_errors v1)) rfl (fun k3 => ?_) (fun k3 => ?_)
        · have h := iteT h k3
          refine region_ ?_
          refine R tbok 2 [16, 15, 3, 9, 10] [(16, [.c (.pv (.int .i64 x2.1))]), (15, [.c (.row 1)]), (3, [.c (.row 1)]), (9, [.agg (bs (e_T92 a0.f_errors))]), (10, [.c (.pv (.int .i64 x2.1))])] (by kernel_rfl) ?_
          refine C rfl rfl (fl_slice (List.map e_i64 [x2.1]) rfl sl33 rfl rfl rfl rfl rfl rfl rfl) rfl ?_
          obtain ⟨v2, k4, h⟩ := bindE h
          refine app_ (e := e_i64) (M := [x2.1]) (env' := [(17, [.c (.pv (.sl (List.map e_i64 [x2.1])))]), (16, [.c (.pv (.int .i64 x2.1))]), (15, [.c (.any)]), (3, [.c (.any)]), (9, [.agg (bs (e_T92 a0.f_errors))]), (10, [.c (.pv (.int .i64 x2.1))])]) (st' := [some (.box false 94 (bs (e_trans_stepper a0))), some (.row true true 3 1 (List.map e_i64 v2))]) rfl rfl rfl rfl u33 te3 (by decide) rfl rfl rfl (.sl _) (fun _ => rfl) k4 rfl rfl ?_
          refine R tbok 1 [3, 9, 10] [(3, [.c (.row 1)]), (9, [.agg (bs (e_T92 a0.f_errors))]), (10, [.c (.pv (.int .i64 x2.1))])] (by kernel_rfl) ?_
          refine ops_nil ?_
          refine bN ?_
          obtain rfl := retE h
          refine mN ?_
          exact wkE (by kernel_rfl) (by kernel_rfl)
        · have h := iteF h k3
          refine skip_ ?_
          refine bN ?_
          obtain rfl := retE h
          refine mN ?_
          refine w_sub (env' := [(3, [.c (.row 1)]), (9, [.agg (bs (e_T92 a0.f_errors))]), (10, [.c (.pv (.int .i64 x2.1))])]) (sub_cons rfl (sub_cons rfl (sub_cons rfl sub_nil))) ?_
          exact wkE (by kernel_rfl) (by kernel_rfl)
      · refine then_ ?_
        refine region_ ?_
        refine R tbok 2 [10, 3, 9] [(10, [.c (.pv (.int .i64 (IntKind.i64.wrap (x2.1 + 1))))]), (3, [.c (.row 1)]), (9, [.agg (bs (e_T92 a0.f_errors))])] (by kernel_rfl) ?_
        refine ops_nil ?_
        obtain rfl := retE h
        refine lN ?_
        refine w_sub (env' := [(3, [.c (.row 1)]), (9, [.agg (bs (e_T92 a0.f_errors))]), (10, [.c (.pv (.int .i64 (IntKind.i64.wrap (x2.1 + 1))))])]) (sub_cons rfl (sub_cons rfl (sub_cons rfl sub_nil))) ?_
        exact wkE (by kernel_rfl) (by kernel_rfl)
    · have h := iteF h k1
      refine exit_ ?_
      refine tX ?_
      obtain rfl := retE h
      refine lX ?_
      refine w_sub (env' := [(3, [.c (.row 1)])]) (sub_cons rfl sub_nil) ?_
      exact wkE (by kernel_rfl) (by kernel_rfl)
  · cases h
  · have h := elimR h
    refine then_ ?_
    refine seq_ ?_
    refine region_ ?_
    refine R tbok 2 [2] [(2, [.c (.row 1)])] (by kernel_rfl) ?_
    refine ops_nil ?_
    refine then_ ?_
    refine ret_ ?_
    obtain rfl := retE h
    refine rwr (rw_ (.tmp rfl .nil) ?_)
    refine (w_freeze (b := 1) (env' := [(0, [.c (.pv (.sl (List.map e_i64 j2)))])]) (st' := [some (.box false 94 (bs (e_trans_stepper a0))), none]) rfl rfl rfl ?_)
    refine w_cut 1 rfl rfl rfl rfl ?_
    exact wkE (by kernel_rfl) (by kernel_rfl)

theorem trans_Step_meets {a0 : trans_World} {a1 : Int} {a2 : Int} {a3 : trans_State} {r : (trans_State × trans_Sent × (List Int))} (h : trans_Step a0 a1 a2 a3 = some r) : MeetsV Try.prog GG 8 [.agg [.pv (.sl (List.map e_check_Chan a0.S.Chans)), .pv (.sl (List.map e_flow_Graph a0.S.Graphs)), .pv (.sl (List.map e_i64 a0.S.Vars)), .pv (.sl (List.map e_queue_Elem a0.Elems)), .pv (.sl (List.map e_bool a0.Deaf))], .c (.pv (.int .i64 a1)), .c (.pv (.int .i64 a2)), .agg (bs (e_trans_State a3))] [.agg (bs (e_trans_State r.1)), .agg [.pv (.int .i64 r.2.1.Chan), .pv (.int .i64 r.2.1.Tag), .pv (.int .i64 r.2.1.Vals.Lo), .pv (.int .i64 r.2.1.Vals.Hi)], .c (.pv (.sl (List.map e_i64 r.2.2)))] := by
  refine MeetsS.toV (meetsW_of (st0 := []) (N := 91) r_trans_Step o_trans_Step r Try.func8 rfl rfl rfl (by dsimp only [argEnv]) rfl ?_) rfl
  unfold trans_Step at h
  refine seq_ ?_
  refine region_ ?_
  refine B rfl rfl (bir_box rfl rfl rfl) rfl rfl .z ?_
  refine B rfl rfl (bir_box rfl rfl rfl) rfl rfl (.s .z) ?_
  refine B rfl rfl (bir_alloc rfl z49 rfl rfl) rfl rfl (.s (.s .z)) ?_
  refine B rfl rfl (bir_alloc rfl z55 rfl rfl) rfl rfl (.s (.s (.s .z))) ?_
  refine R tbok 1 [10, 9, 8, 7, 4, 1, 2] [(10, [.c (.emp)]), (9, [.c (.box 3 0)]), (8, [.c (.box 2 0)]), (7, [.c (.box 1 0)]), (4, [.c (.box 0 0)]), (1, [.c (.pv (.int .i64 a1))]), (2, [.c (.pv (.int .i64 a2))])] (by kernel_rfl) ?_
  refine ops_nil ?_
  refine then_ ?_
  refine seq_ ?_
  refine region_ ?_
  obtain ⟨v1, k1, h⟩ := bindE h
  refine C rfl rfl (fl_call rfl Try.call22 rfl (by kernel_rfl) (by kernel_rfl) (itv_None_meets k1)) rfl ?_
  refine L rfl rfl (lt_build (cs := [.pv (.int .i64 (-1)), .pv (.int .i64 0), .pv (.int .i64 v1.Lo), .pv (.int .i64 v1.Hi)]) rfl st55 rfl (by kernel_rfl)) rfl ?_
  refine B rfl rfl (bir_alloc rfl z55 rfl rfl) rfl rfl (.s (.s (.s (.s .z)))) ?_
  refine S rfl rfl rfl ty55 (by decide) rfl rfl rfl rfl rfl (.all rfl) (.s (.s (.s (.s .z)))) ?_
  refine ops_nil ?_
  refine then_ ?_
  refine seq_ ?_
  refine seq_ ?_
  refine jn_ (fun (j1 : Bool) => (⟨91, 0, [(1, [.c (.pv (.int .i64 a1))]), (2, [.c (.pv (.int .i64 a2))]), (4, [.c (.box 0 0)]), (7, [.c (.box 1 0)]), (8, [.c (.box 2 0)]), (9, [.c (.box 3 0)]), (10, [.c (.emp)]), (11, [.c (.box 4 0)]), (45, [.c (.pv (.bool j1))])], [some (.box true 61 [.pv (.sl (List.map e_check_Chan a0.S.Chans)), .pv (.sl (List.map e_flow_Graph a0.S.Graphs)), .pv (.sl (List.map e_i64 a0.S.Vars)), .pv (.sl (List.map e_queue_Elem a0.Elems)), .pv (.sl (List.map e_bool a0.Deaf))]), some (.box true 49 (bs (e_trans_State a3))), some (.box true 49 ([.pv (.bool false), .emp, .pv (.int .i64 0), .pv (.bool false)] ++ (bs (e_T42 (arr (arr 0 []) [(arr 0 [0, 0, 0, 0, 0, 0, 0]), (arr 0 [0, 0, 0, 0, 0, 0, 0]), (arr 0 [0, 0, 0, 0, 0, 0, 0]), (arr 0 [0, 0, 0, 0, 0, 0, 0]), (arr 0 [0, 0, 0, 0, 0, 0, 0]), (arr 0 [0, 0, 0, 0, 0, 0, 0]), (arr 0 [0, 0, 0, 0, 0, 0, 0])])) ++ [.emp, .emp]))), some (.box true 55 [.pv (.int .i64 0), .pv (.int .i64 0), .pv (.int .i64 0), .pv (.int .i64 0)]), some (.box true 55 [.pv (.int .i64 (-1)), .pv (.int .i64 0), .pv (.int .i64 v1.Lo), .pv (.int .i64 v1.Hi)])]⟩ : Sx)) h wT (fun o h => ?_) (fun j1 h => ?_)
  · refine region_ ?_
    refine R tbok 3 [18, 11, 10, 9, 8, 7, 4, 1, 2] [(18, [.c (.pv (.bool (decide (a1 < 0))))]), (11, [.c (.box 4 0)]), (10, [.c (.emp)]), (9, [.c (.box 3 0)]), (8, [.c (.box 2 0)]), (7, [.c (.box 1 0)]), (4, [.c (.box 0 0)]), (1, [.c (.pv (.int .i64 a1))]), (2, [.c (.pv (.int .i64 a2))])] (by kernel_rfl) ?_
    refine (tf (decide (a1 < 0))).elim (fun k2 => ?_) (fun k2 => ?_)
    · have h := iteT h k2
      refine Ls0 rfl rfl rfl k2 rfl rfl ?_
      refine Ls0 rfl rfl rfl k2 rfl rfl ?_
      refine Ls0 rfl rfl rfl k2 rfl rfl ?_
      refine Ls0 rfl rfl rfl k2 rfl rfl ?_
      refine Ls0 rfl rfl rfl k2 rfl rfl ?_
      refine Ls0 rfl rfl rfl k2 rfl rfl ?_
      refine L rfl rfl (lt_pickT rfl rfl k2 rfl) rfl ?_
      refine R tbok 1 [26, 11, 10, 9, 8, 7, 4, 1, 2] [(26, [.c (.pv (.bool true))]), (11, [.c (.box 4 0)]), (10, [.c (.emp)]), (9, [.c (.box 3 0)]), (8, [.c (.box 2 0)]), (7, [.c (.box 1 0)]), (4, [.c (.box 0 0)]), (1, [.c (.pv (.int .i64 a1))]), (2, [.c (.pv (.int .i64 a2))])] (by kernel_rfl) ?_
      refine Ls0 rfl rfl rfl rfl rfl rfl ?_
      refine Ls0 rfl rfl rfl rfl rfl rfl ?_
      refine L rfl rfl (lt_pickT rfl rfl rfl rfl) rfl ?_
      refine R tbok 1 [30, 11, 10, 9, 8, 7, 4, 1, 2] [(30, [.c (.pv (.bool true))]), (11, [.c (.box 4 0)]), (10, [.c (.emp)]), (9, [.c (.box 3 0)]), (8, [.c (.box 2 0)]), (7, [.c (.box 1 0)]), (4, [.c (.box 0 0)]), (1, [.c (.pv (.int .i64 a1))]), (2, [.c (.pv (.int .i64 a2))])] (by kernel_rfl) ?_
      refine Ls0 rfl rfl rfl rfl rfl rfl ?_
      refine Ls0 rfl rfl rfl rfl rfl rfl ?_
      refine Ls0 rfl rfl rfl rfl rfl rfl ?_
      refine Ls0 rfl rfl rfl rfl rfl rfl ?_
      refine Ls0 rfl rfl rfl rfl rfl rfl ?_
      refine Ls0 rfl rfl rfl rfl rfl rfl ?_
      refine Ls0 rfl rfl rfl rfl rfl rfl ?_
      refine Ls0 rfl rfl rfl rfl rfl rfl ?_
      refine Ls0 rfl rfl rfl rfl rfl rfl ?_
      refine Ls0 rfl rfl rfl rfl rfl rfl ?_
      refine L rfl rfl (lt_pickT rfl rfl rfl rfl) rfl ?_
      refine R tbok 1 [42, 11, 10, 9, 8, 7, 4, 1, 2] [(42, [.c (.pv (.bool true))]), (11, [.c (.box 4 0)]), (10, [.c (.emp)]), (9, [.c (.box 3 0)]), (8, [.c (.box 2 0)]), (7, [.c (.box 1 0)]), (4, [.c (.box 0 0)]), (1, [.c (.pv (.int .i64 a1))]), (2, [.c (.pv (.int .i64 a2))])] (by kernel_rfl) ?_
      refine Ls0 rfl rfl rfl rfl rfl rfl ?_
      refine Ls0 rfl rfl rfl rfl rfl rfl ?_
      refine L rfl rfl (lt_pickT rfl rfl rfl rfl) rfl ?_
      refine ops_nil ?_
      obtain rfl := retE h
      refine mN ?_
      refine w_sub (env' := [(1, [.c (.pv (.int .i64 a1))]), (2, [.c (.pv (.int .i64 a2))]), (4, [.c (.box 0 0)]), (7, [.c (.box 1 0)]), (8, [.c (.box 2 0)]), (9, [.c (.box 3 0)]), (10, [.c (.emp)]), (11, [.c (.box 4 0)]), (45, [.c (.pv (.bool true))])]) (sub_cons rfl (sub_cons rfl (sub_cons rfl (sub_cons rfl (sub_cons rfl (sub_cons rfl (sub_cons rfl (sub_cons rfl (sub_cons rfl sub_nil))))))))) ?_
      exact wkE (by kernel_rfl) (by kernel_rfl)
    · have h := iteF h k2
      refine Lg rfl rfl rfl k2 rfl (lt_move rfl rfl) rfl ?_
      refine Lg rfl rfl rfl k2 rfl (lt_fa_box rfl f61_0 ty39 (by decide) rfl) rfl ?_
      refine Lg rfl rfl rfl k2 rfl (lt_fa_box rfl f39_1 ty36 (by decide) rfl) rfl ?_
      refine Lg rfl rfl rfl k2 rfl (lt_load_box rfl ty36 rfl rfl rfl) rfl ?_
      refine Lg rfl rfl rfl k2 rfl (len_sl (e := e_flow_Graph) rfl u36 rfl) rfl ?_
      refine Lg rfl rfl rfl k2 rfl (lt_int rfl rfl rfl rfl) rfl ?_
      refine L rfl rfl (lt_pickF rfl rfl k2 rfl) rfl ?_
      refine R tbok 1 [26, 11, 10, 9, 8, 7, 4, 1, 2] [(26, [.c (.pv (.bool (decide (a1 ≥ (a0.S.Graphs.length : Int)))))]), (11, [.c (.box 4 0)]), (10, [.c (.emp)]), (9, [.c (.box 3 0)]), (8, [.c (.box 2 0)]), (7, [.c (.box 1 0)]), (4, [.c (.box 0 0)]), (1, [.c (.pv (.int .i64 a1))]), (2, [.c (.pv (.int .i64 a2))])] (by kernel_rfl) ?_
      refine (tf (decide (a1 ≥ (a0.S.Graphs.length : Int)))).elim (fun k3 => ?_) (fun k3 => ?_)
      · have h := iteT h k3
        refine Ls0 rfl rfl rfl k3 rfl rfl ?_
        refine Ls0 rfl rfl rfl k3 rfl rfl ?_
        refine L rfl rfl (lt_pickT rfl rfl k3 rfl) rfl ?_
        refine R tbok 1 [30, 11, 10, 9, 8, 7, 4, 1, 2] [(30, [.c (.pv (.bool true))]), (11, [.c (.box 4 0)]), (10, [.c (.emp)]), (9, [.c (.box 3 0)]), (8, [.c (.box 2 0)]), (7, [.c (.box 1 0)]), (4, [.c (.box 0 0)]), (1, [.c (.pv (.int .i64 a1))]), (2, [.c (.pv (.int .i64 a2))])] (by kernel_rfl) ?_
        refine Ls0 rfl rfl rfl rfl rfl rfl ?_
        refine Ls0 rfl rfl rfl rfl rfl rfl ?_
        refine Ls0 rfl rfl rfl rfl rfl rfl ?_
        refine Ls0 rfl rfl rfl rfl rfl rfl ?_
        refine Ls0 rfl rfl rfl rfl rfl rfl ?_
        refine Ls0 rfl rfl rfl rfl rfl rfl ?_
        refine Ls0 rfl rfl rfl rfl rfl rfl ?_
        refine Ls0 rfl rfl rfl rfl rfl rfl ?_
        refine Ls0 rfl rfl rfl rfl rfl rfl ?_
        refine Ls0 rfl rfl rfl rfl rfl rfl ?_
        refine L rfl rfl (lt_pickT rfl rfl rfl rfl) rfl ?_
        refine R tbok 1 [42, 11, 10, 9, 8, 7, 4, 1, 2] [(42, [.c (.pv (.bool true))]), (11, [.c (.box 4 0)]), (10, [.c (.emp)]), (9, [.c (.box 3 0)]), (8, [.c (.box 2 0)]), (7, [.c (.box 1 0)]), (4, [.c (.box 0 0)]), (1, [.c (.pv (.int .i64 a1))]), (2, [.c (.pv (.int .i64 a2))])] (by kernel_rfl) ?_
        refine Ls0 rfl rfl rfl rfl rfl rfl ?_
        refine Ls0 rfl rfl rfl rfl rfl rfl ?_
        refine L rfl rfl (lt_pickT rfl rfl rfl rfl) rfl ?_
        refine ops_nil ?_
        obtain rfl := retE h
        refine mN ?_
        refine w_sub (env' := [(1, [.c (.pv (.int .i64 a1))]), (2, [.c (.pv (.int .i64 a2))]), (4, [.c (.box 0 0)]), (7, [.c (.box 1 0)]), (8, [.c (.box 2 0)]), (9, [.c (.box 3 0)]), (10, [.c (.emp)]), (11, [.c (.box 4 0)]), (45, [.c (.pv (.bool true))])]) (sub_cons rfl (sub_cons rfl (sub_cons rfl (sub_cons rfl (sub_cons rfl (sub_cons rfl (sub_cons rfl (sub_cons rfl (sub_cons rfl sub_nil))))))))) ?_
        exact wkE (by kernel_rfl) (by kernel_rfl)
      · have h := iteF h k3
        refine Lg rfl rfl rfl k3 rfl (lt_move rfl rfl) rfl ?_
        refine Lg rfl rfl rfl k3 rfl (lt_int rfl rfl rfl rfl) rfl ?_
        refine L rfl rfl (lt_pickF rfl rfl k3 rfl) rfl ?_
        refine R tbok 1 [30, 11, 10, 9, 8, 7, 4, 1, 2] [(30, [.c (.pv (.bool (decide (a2 < 0))))]), (11, [.c (.box 4 0)]), (10, [.c (.emp)]), (9, [.c (.box 3 0)]), (8, [.c (.box 2 0)]), (7, [.c (.box 1 0)]), (4, [.c (.box 0 0)]), (1, [.c (.pv (.int .i64 a1))]), (2, [.c (.pv (.int .i64 a2))])] (by kernel_rfl) ?_
        refine (tf (decide (a2 < 0))).elim (fun k4 => ?_) (fun k4 => ?_)
        · have h := iteT h k4
          refine Ls0 rfl rfl rfl k4 rfl rfl ?_
          refine Ls0 rfl rfl rfl k4 rfl rfl ?_
          refine Ls0 rfl rfl rfl k4 rfl rfl ?_
          refine Ls0 rfl rfl rfl k4 rfl rfl ?_
          refine Ls0 rfl rfl rfl k4 rfl rfl ?_
          refine Ls0 rfl rfl rfl k4 rfl rfl ?_
          refine Ls0 rfl rfl rfl k4 rfl rfl ?_
          refine Ls0 rfl rfl rfl k4 rfl rfl ?_
          refine Ls0 rfl rfl rfl k4 rfl rfl ?_
          refine Ls0 rfl rfl rfl k4 rfl rfl ?_
          refine L rfl rfl (lt_pickT rfl rfl k4 rfl) rfl ?_
          refine R tbok 1 [42, 11, 10, 9, 8, 7, 4, 1, 2] [(42, [.c (.pv (.bool true))]), (11, [.c (.box 4 0)]), (10, [.c (.emp)]), (9, [.c (.box 3 0)]), (8, [.c (.box 2 0)]), (7, [.c (.box 1 0)]), (4, [.c (.box 0 0)]), (1, [.c (.pv (.int .i64 a1))]), (2, [.c (.pv (.int .i64 a2))])] (by kernel_rfl) ?_
          refine Ls0 rfl rfl rfl rfl rfl rfl ?_
          refine Ls0 rfl rfl rfl rfl rfl rfl ?_
          refine L rfl rfl (lt_pickT rfl rfl rfl rfl) rfl ?_
          refine ops_nil ?_
          obtain rfl := retE h
          refine mN ?_
          refine w_sub (env' := [(1, [.c (.pv (.int .i64 a1))]), (2, [.c (.pv (.int .i64 a2))]), (4, [.c (.box 0 0)]), (7, [.c (.box 1 0)]), (8, [.c (.box 2 0)]), (9, [.c (.box 3 0)]), (10, [.c (.emp)]), (11, [.c (.box 4 0)]), (45, [.c (.pv (.bool true))])]) (sub_cons rfl (sub_cons rfl (sub_cons rfl (sub_cons rfl (sub_cons rfl (sub_cons rfl (sub_cons rfl (sub_cons rfl (sub_cons rfl sub_nil))))))))) ?_
          exact wkE (by kernel_rfl) (by kernel_rfl)
        · have h := iteF h k4
          refine Lg rfl rfl rfl k4 rfl (lt_move rfl rfl) rfl ?_
          refine Lg rfl rfl rfl k4 rfl (lt_fa_box rfl f61_0 ty39 (by decide) rfl) rfl ?_
          refine Lg rfl rfl rfl k4 rfl (lt_fa_box rfl f39_1 ty36 (by decide) rfl) rfl ?_
          refine Lg rfl rfl rfl k4 rfl (lt_load_box rfl ty36 rfl rfl rfl) rfl ?_
          refine Lg rfl rfl rfl k4 rfl (lt_move rfl rfl) rfl ?_
          obtain ⟨v2, k5, h⟩ := bindE h
          refine Lg rfl rfl rfl k4 rfl (ia_sl (e := e_flow_Graph) (y := v2) rfl u36 ty35 rfl rfl k5 rfl) rfl ?_
          refine Lg rfl rfl rfl k4 rfl (lt_fa_ep rfl f35_1 ty32 (by decide) rfl rfl) rfl ?_
          refine Lg rfl rfl rfl k4 rfl (lt_load_ep rfl ty32 rfl) rfl ?_
          refine Lg rfl rfl rfl k4 rfl (len_sl (e := e_flow_Edge) rfl u32 rfl) rfl ?_
          refine Lg rfl rfl rfl k4 rfl (lt_int rfl rfl rfl rfl) rfl ?_
          refine L rfl rfl (lt_pickF rfl rfl k4 rfl) rfl ?_
          refine R tbok 1 [42, 11, 10, 9, 8, 7, 4, 1, 2] [(42, [.c (.pv (.bool (decide (a2 ≥ (v2.Edges.length : Int)))))]), (11, [.c (.box 4 0)]), (10, [.c (.emp)]), (9, [.c (.box 3 0)]), (8, [.c (.box 2 0)]), (7, [.c (.box 1 0)]), (4, [.c (.box 0 0)]), (1, [.c (.pv (.int .i64 a1))]), (2, [.c (.pv (.int .i64 a2))])] (by kernel_rfl) ?_
          refine (tf (decide (a2 ≥ (v2.Edges.length : Int)))).elim (fun k6 => ?_) (fun k6 => ?_)
          · have h := iteT h k6
            refine Ls0 rfl rfl rfl k6 rfl rfl ?_
            refine Ls0 rfl rfl rfl k6 rfl rfl ?_
            refine L rfl rfl (lt_pickT rfl rfl k6 rfl) rfl ?_
            refine ops_nil ?_
            obtain rfl := retE h
            refine mN ?_
            refine w_sub (env' := [(1, [.c (.pv (.int .i64 a1))]), (2, [.c (.pv (.int .i64 a2))]), (4, [.c (.box 0 0)]), (7, [.c (.box 1 0)]), (8, [.c (.box 2 0)]), (9, [.c (.box 3 0)]), (10, [.c (.emp)]), (11, [.c (.box 4 0)]), (45, [.c (.pv (.bool true))])]) (sub_cons rfl (sub_cons rfl (sub_cons rfl (sub_cons rfl (sub_cons rfl (sub_cons rfl (sub_cons rfl (sub_cons rfl (sub_cons rfl sub_nil))))))))) ?_
            exact wkE (by kernel_rfl) (by kernel_rfl)
          · have h := iteF h k6
            refine Lg rfl rfl rfl k6 rfl (lt_load_boxA (ys := (bs (e_trans_State a3))) rfl ty49 rfl rfl (by kernel_rfl) (by kernel_rfl)) rfl ?_
            obtain ⟨v3, k7, h⟩ := bindE h
            refine Hg rfl rfl rfl k6 rfl rfl (op_fl rfl rfl (fl_call rfl Try.call10 rfl (by kernel_rfl) (by kernel_rfl) (trans_Empty_meets k7)) ?_)
            refine L rfl rfl (lt_pickF rfl rfl k6 rfl) rfl ?_
            refine ops_nil ?_
            obtain rfl := retE h
            refine mN ?_
            refine w_sub (env' := [(1, [.c (.pv (.int .i64 a1))]), (2, [.c (.pv (.int .i64 a2))]), (4, [.c (.box 0 0)]), (7, [.c (.box 1 0)]), (8, [.c (.box 2 0)]), (9, [.c (.box 3 0)]), (10, [.c (.emp)]), (11, [.c (.box 4 0)]), (45, [.c (.pv (.bool v3))])]) (sub_cons rfl (sub_cons rfl (sub_cons rfl (sub_cons rfl (sub_cons rfl (sub_cons rfl (sub_cons rfl (sub_cons rfl (sub_cons rfl sub_nil))))))))) ?_
            exact wkE (by kernel_rfl) (by kernel_rfl)
  · refine then_ ?_
    refine cond_ (b := j1) rfl (fun k8 => ?_) (fun k8 => ?_)
    · have h := iteT h k8
      refine seq_ ?_
      refine drawn_ mixed ?_
      refine dl (t := 46) 0 [.c (.box 0 0)] rfl ?_
      refine dl (t := 47) 1 [.agg [.pv (.sl (List.map e_check_Chan a0.S.Chans)), .pv (.sl (List.map e_flow_Graph a0.S.Graphs)), .pv (.sl (List.map e_i64 a0.S.Vars))]] rfl ?_
      refine dl (t := 48) 2 [.c (.pv (.int .i64 a1))] rfl ?_
      obtain ⟨v5, k10, h⟩ := bindE h
      refine dl (t := 49) 3 [.agg (bs (e_trans_State v5))] rfl ?_
      refine dl (t := 50) 4 [.agg [.pv (.int .i64 (-1)), .pv (.int .i64 0), .pv (.int .i64 v1.Lo), .pv (.int .i64 v1.Hi)]] rfl ?_
      refine d_store (wm [0, 1, 0, 7, 0, 15, 63, 127]) 5 rfl (by kernel_rfl) (by kernel_rfl) (by kernel_rfl) (by kernel_rfl) (by kernel_rfl) (gi0 rfl) (oE tbok [] 1 (by kernel_rfl) (oL [] rfl (by kernel_rfl) (fl_call rfl Try.call23 rfl (by kernel_rfl) (by kernel_rfl) (trans_None_meets k10)) (oE tbok [] 3 (by kernel_rfl) trivial))) rfl rfl ty49 rfl rfl rfl rfl rfl rfl (putE 55 (.all rfl) rfl (by decide)) (SetAt.eq (.s (.s .z))) ?_
      refine d_store (wm [0, 1, 0, 7, 0, 15, 63, 127]) 6 rfl (by kernel_rfl) (by kernel_rfl) (by kernel_rfl) (by kernel_rfl) (by kernel_rfl) (gi0 rfl) (oN 1 (by kernel_rfl) (oE tbok [] 1 (by kernel_rfl) (oN 4 (by kernel_rfl) trivial))) rfl rfl ty55 rfl rfl rfl rfl rfl rfl (putE 4 (.all rfl) rfl (by decide)) (SetAt.eq (.s (.s (.s .z)))) ?_
      refine dl (t := 10) 7 [.c (.emp)] rfl ?_
      refine d_endS (env2 := [(10, [.c (.emp)]), (1, [.c (.pv (.int .i64 a1))]), (2, [.c (.pv (.int .i64 a2))]), (4, [.c (.box 0 0)]), (7, [.c (.box 1 0)]), (8, [.c (.box 2 0)]), (9, [.c (.box 3 0)]), (11, [.c (.box 4 0)])]) (wm [0, 1, 0, 7, 0, 15, 63, 127]) (by kernel_rfl) (by kernel_rfl) (by kernel_rfl) (oE tbok [] 1 (by kernel_rfl) (oN 7 (by kernel_rfl) trivial)) (sub_cons rfl (sub_cons rfl (sub_cons rfl (sub_cons rfl (sub_cons rfl (sub_cons rfl (sub_cons rfl (sub_cons rfl sub_nil)))))))) wT ?_
      refine then_ ?_
      refine ret_ ?_
      obtain rfl := retE h
      refine tR (rwr (rw_ (.cellA (ys := (bs (e_trans_State v5))) ty49 rfl rfl (by kernel_rfl) (by kernel_rfl) (.cellA (ys := [.pv (.int .i64 (-1)), .pv (.int .i64 0), .pv (.int .i64 v1.Lo), .pv (.int .i64 v1.Hi)]) ty55 rfl rfl (by kernel_rfl) (by kernel_rfl) (.tmp rfl .nil))) ?_))
      refine w_none 0 .z ?_
      refine w_none 1 (.s .z) ?_
      refine w_none 2 (.s (.s .z)) ?_
      refine w_none 3 (.s (.s (.s .z))) ?_
      refine w_none 4 (.s (.s (.s (.s .z)))) ?_
      refine w_nil (env' := [(0, [.agg (bs (e_trans_State v5)), .agg [.pv (.int .i64 (-1)), .pv (.int .i64 0), .pv (.int .i64 v1.Lo), .pv (.int .i64 v1.Hi)], .c (.pv (.sl (List.map e_i64 [])))])]) (st' := [none, none, none, none, none]) rfl rfl ?_
      refine w_cut 0 rfl rfl rfl rfl ?_
      exact wkE (by kernel_rfl) (by kernel_rfl)
    · have h := iteF h k8
      refine skip_ ?_
      refine then_ ?_
      refine seq_ ?_
      refine region_ ?_
      refine R tbok 4 [54, 53, 1, 2, 4, 7, 8, 9, 10, 11] [(54, [.c (.pv (.int .i64 a1))]), (53, [.c (.pv (.sl (List.map e_flow_Graph a0.S.Graphs)))]), (1, [.c (.pv (.int .i64 a1))]), (2, [.c (.pv (.int .i64 a2))]), (4, [.c (.box 0 0)]), (7, [.c (.box 1 0)]), (8, [.c (.box 2 0)]), (9, [.c (.box 3 0)]), (10, [.c (.emp)]), (11, [.c (.box 4 0)])] (by kernel_rfl) ?_
      obtain ⟨v6, k11, h⟩ := bindE h
      refine L rfl rfl (ia_sl (e := e_flow_Graph) (y := v6) rfl u36 ty35 rfl rfl k11 rfl) rfl ?_
      refine R tbok 3 [58, 57, 1, 2, 4, 7, 8, 9, 10, 11] [(58, [.c (.pv (.int .i64 a2))]), (57, [.c (.pv (.sl (List.map e_flow_Edge v6.Edges)))]), (1, [.c (.pv (.int .i64 a1))]), (2, [.c (.pv (.int .i64 a2))]), (4, [.c (.box 0 0)]), (7, [.c (.box 1 0)]), (8, [.c (.box 2 0)]), (9, [.c (.box 3 0)]), (10, [.c (.emp)]), (11, [.c (.box 4 0)])] (by kernel_rfl) ?_
      obtain ⟨v7, k12, h⟩ := bindE h
      refine L rfl rfl (ia_sl (e := e_flow_Edge) (y := v7) rfl u32 ty31 rfl rfl k12 rfl) rfl ?_
      refine R tbok 1 [60, 1, 2, 4, 7, 8, 9, 10, 11] [(60, [.agg (bs (e_flow_Edge v7))]), (1, [.c (.pv (.int .i64 a1))]), (2, [.c (.pv (.int .i64 a2))]), (4, [.c (.box 0 0)]), (7, [.c (.box 1 0)]), (8, [.c (.box 2 0)]), (9, [.c (.box 3 0)]), (10, [.c (.emp)]), (11, [.c (.box 4 0)])] (by kernel_rfl) ?_
      refine B rfl rfl (bir_alloc rfl z31 rfl rfl) rfl rfl (.s (.s (.s (.s (.s .z))))) ?_
      refine S rfl rfl rfl ty31 (by decide) rfl rfl rfl rfl rfl (.all rfl) (.s (.s (.s (.s (.s .z))))) ?_
      refine ops_nil ?_
      refine then_ ?_
      refine seq_ ?_
      refine drawn_ mixed ?_
      refine dl (t := 61) 0 [.agg [.pv (.sl (List.map e_check_Chan a0.S.Chans)), .pv (.sl (List.map e_flow_Graph a0.S.Graphs)), .pv (.sl (List.map e_i64 a0.S.Vars)), .pv (.sl (List.map e_queue_Elem a0.Elems)), .pv (.sl (List.map e_bool a0.Deaf))]] rfl ?_
      refine dl (t := 62) 1 [.c (.pv (.int .i64 a1))] rfl ?_
      refine dl (t := 63) 2 [.c (.box 0 0)] rfl ?_
      refine dl (t := 64) 3 [.c (.box 0 1)] rfl ?_
      refine dl (t := 65) 4 [.c (.pv (.sl (List.map e_flow_Graph a0.S.Graphs)))] rfl ?_
      refine dl (t := 66) 5 [.c (.pv (.int .i64 a1))] rfl ?_
      obtain ⟨v8, k13, h⟩ := bindE h
      refine dl (t := 67) 6 [.c (.ep [.int .i64 v8.Nodes, .sl (List.map e_flow_Edge v8.Edges), .sl (List.map e_i64 v8.Heads)])] rfl ?_
      refine dl (t := 68) 7 [.agg [.pv (.int .i64 v8.Nodes), .pv (.sl (List.map e_flow_Edge v8.Edges)), .pv (.sl (List.map e_i64 v8.Heads))]] rfl ?_
      refine dl (t := 69) 8 [.c (.box 5 0)] rfl ?_
      refine dl (t := 70) 9 [.c (.pv (.int .i64 v7.From))] rfl ?_
      obtain ⟨v10, k15, h⟩ := bindE h
      refine dl (t := 71) 10 [.c (.pv (.sl (List.map e_i64 v10)))] rfl ?_
      refine dl (t := 72) 11 [.c (.pv (.int .i64 a2))] rfl ?_
      refine dl (t := 73) 12 [.agg (bs (e_flow_Edge v7))] rfl ?_
      refine dl (t := 74) 13 [.agg (bs (e_trans_State a3))] rfl ?_
      refine dl (t := 76) 15 [.agg [.pv (.int .i64 (-1)), .pv (.int .i64 0), .pv (.int .i64 v1.Lo), .pv (.int .i64 v1.Hi)]] rfl ?_
      obtain ⟨v13, k18, h⟩ := bindE h
      refine d_callS (env1 := [(12, [.c (.box 5 0)]), (60, [.agg (bs (e_flow_Edge v7))]), (1, [.c (.pv (.int .i64 a1))]), (2, [.c (.pv (.int .i64 a2))]), (4, [.c (.box 0 0)]), (7, [.c (.box 1 0)]), (8, [.c (.box 2 0)]), (9, [.c (.box 3 0)]), (10, [.c (.emp)]), (11, [.c (.box 4 0)])]) (T1 := [⟨15, some 76, [.agg [.pv (.int .i64 (-1)), .pv (.int .i64 0), .pv (.int .i64 v1.Lo), .pv (.int .i64 v1.Hi)]], .light⟩, ⟨13, some 74, [.agg (bs (e_trans_State a3))], .light⟩, ⟨12, some 73, [.agg (bs (e_flow_Edge v7))], .light⟩, ⟨11, some 72, [.c (.pv (.int .i64 a2))], .light⟩, ⟨10, some 71, [.c (.pv (.sl (List.map e_i64 v10)))], .light⟩, ⟨9, some 70, [.c (.pv (.int .i64 v7.From))], .light⟩, ⟨8, some 69, [.c (.box 5 0)], .light⟩, ⟨7, some 68, [.agg [.pv (.int .i64 v8.Nodes), .pv (.sl (List.map e_flow_Edge v8.Edges)), .pv (.sl (List.map e_i64 v8.Heads))]], .light⟩, ⟨6, some 67, [.c (.ep [.int .i64 v8.Nodes, .sl (List.map e_flow_Edge v8.Edges), .sl (List.map e_i64 v8.Heads)])], .light⟩, ⟨5, some 66, [.c (.pv (.int .i64 a1))], .light⟩, ⟨4, some 65, [.c (.pv (.sl (List.map e_flow_Graph a0.S.Graphs)))], .light⟩, ⟨3, some 64, [.c (.box 0 1)], .light⟩, ⟨2, some 63, [.c (.box 0 0)], .light⟩, ⟨1, some 62, [.c (.pv (.int .i64 a1))], .light⟩, ⟨0, some 61, [.agg [.pv (.sl (List.map e_check_Chan a0.S.Chans)), .pv (.sl (List.map e_flow_Graph a0.S.Graphs)), .pv (.sl (List.map e_i64 a0.S.Vars)), .pv (.sl (List.map e_queue_Elem a0.Elems)), .pv (.sl (List.map e_bool a0.Deaf))]], .light⟩]) (resX := [.agg ([.pv (.bool v13.N.None), .pv (.sl (List.map e_itv_Itv v13.N.I)), .pv (.int .i64 v13.N.Z.N), .pv (.bool v13.N.Z.None)] ++ (bs (e_T42 v13.N.Z.D) ++ [.row 6, .row 7]))]) (st' := [some (.box true 61 [.pv (.sl (List.map e_check_Chan a0.S.Chans)), .pv (.sl (List.map e_flow_Graph a0.S.Graphs)), .pv (.sl (List.map e_i64 a0.S.Vars)), .pv (.sl (List.map e_queue_Elem a0.Elems)), .pv (.sl (List.map e_bool a0.Deaf))]), some (.box true 49 (bs (e_trans_State a3))), some (.box true 49 ([.pv (.bool false), .emp, .pv (.int .i64 0), .pv (.bool false)] ++ (bs (e_T42 (arr (arr 0 []) [(arr 0 [0, 0, 0, 0, 0, 0, 0]), (arr 0 [0, 0, 0, 0, 0, 0, 0]), (arr 0 [0, 0, 0, 0, 0, 0, 0]), (arr 0 [0, 0, 0, 0, 0, 0, 0]), (arr 0 [0, 0, 0, 0, 0, 0, 0]), (arr 0 [0, 0, 0, 0, 0, 0, 0]), (arr 0 [0, 0, 0, 0, 0, 0, 0])])) ++ [.emp, .emp]))), some (.box true 55 [.pv (.int .i64 0), .pv (.int .i64 0), .pv (.int .i64 0), .pv (.int .i64 0)]), some (.box true 55 [.pv (.int .i64 (-1)), .pv (.int .i64 0), .pv (.int .i64 v1.Lo), .pv (.int .i64 v1.Hi)]), some (.box true 31 (bs (e_flow_Edge v7))), some (.row true true 53 2 (List.map e_itv_Itv v13.Counts)), some (.row true true 85 1 (List.map e_rule_Set v13.Rules))]) (wm [0, 0, 0, 4, 12, 0, 60, 124, 0, 256, 1020, 0, 0, 0, 10236, 0, 65535, 131071, 262143]) 14 rfl (by kernel_rfl) (by kernel_rfl) (by kernel_rfl) (by kernel_rfl) (by kernel_rfl) (gi0 rfl) (oE tbok [] 4 (by kernel_rfl) (oL [] rfl (by kernel_rfl) (fl_call rfl Try.call24 rfl (by kernel_rfl) (by kernel_rfl) (flow_Out_meets k15)) (oE tbok [] 3 (by kernel_rfl) (oL [] rfl (by kernel_rfl) (fl_lt (ia_sl (e := e_flow_Graph) (y := v8) rfl u36 ty35 rfl rfl k13 rfl)) (oE tbok [] 6 (by kernel_rfl) trivial))))) [] [] rfl rfl rfl Try.call25 rfl rfl (by kernel_rfl) (by kernel_rfl) (trans_copied_meets k18) (by kernel_rfl) (by kernel_rfl) (by kernel_rfl) (by kernel_rfl) ?_
      refine dl (t := 77) 16 [.agg ([.pv (.sl (List.map e_check_Chan a0.S.Chans)), .pv (.sl (List.map e_flow_Graph a0.S.Graphs)), .pv (.sl (List.map e_i64 a0.S.Vars)), .pv (.sl (List.map e_queue_Elem a0.Elems)), .pv (.sl (List.map e_bool a0.Deaf)), .pv (.int .i64 a1), .pv (.sl (List.map e_i64 v10)), .pv (.int .i64 a2), .pv (.int .i64 v7.From), .pv (.int .i64 v7.To), .pv (.int .i64 v7.Kind), .pv (.int .i64 v7.Var), .pv (.int .i64 v7.Chan), .pv (.int .i64 v7.Tag), .pv (.int .i64 v7.E.Kind), .pv (.int .i64 v7.E.Num), .pv (.int .i64 v7.E.Var), .pv (.sl (List.map e_check_Expr v7.E.Kids)), .pv (.int .i64 v7.C.Op), .pv (.int .i64 v7.C.L.Kind), .pv (.int .i64 v7.C.L.Num), .pv (.int .i64 v7.C.L.Var), .pv (.sl (List.map e_check_Expr v7.C.L.Kids)), .pv (.int .i64 v7.C.R.Kind), .pv (.int .i64 v7.C.R.Num), .pv (.int .i64 v7.C.R.Var), .pv (.sl (List.map e_check_Expr v7.C.R.Kids)), .pv (.bool v13.N.None), .pv (.sl (List.map e_itv_Itv v13.N.I)), .pv (.int .i64 v13.N.Z.N), .pv (.bool v13.N.Z.None)] ++ (bs (e_T42 v13.N.Z.D) ++ ([.row 6, .row 7, .pv (.int .i64 (-1)), .pv (.int .i64 0), .pv (.int .i64 v1.Lo), .pv (.int .i64 v1.Hi)] ++ bs (e_T92 (arr false [false, false, false, false, false, false, false])))))] rfl ?_
      refine db (t := 78) 17 8 [.c (.box 8 0)] ((.box true 94 ([.pv (.sl (List.map e_check_Chan a0.S.Chans)), .pv (.sl (List.map e_flow_Graph a0.S.Graphs)), .pv (.sl (List.map e_i64 a0.S.Vars)), .pv (.sl (List.map e_queue_Elem a0.Elems)), .pv (.sl (List.map e_bool a0.Deaf)), .pv (.int .i64 a1), .pv (.sl (List.map e_i64 v10)), .pv (.int .i64 a2), .pv (.int .i64 v7.From), .pv (.int .i64 v7.To), .pv (.int .i64 v7.Kind), .pv (.int .i64 v7.Var), .pv (.int .i64 v7.Chan), .pv (.int .i64 v7.Tag), .pv (.int .i64 v7.E.Kind), .pv (.int .i64 v7.E.Num), .pv (.int .i64 v7.E.Var), .pv (.sl (List.map e_check_Expr v7.E.Kids)), .pv (.int .i64 v7.C.Op), .pv (.int .i64 v7.C.L.Kind), .pv (.int .i64 v7.C.L.Num), .pv (.int .i64 v7.C.L.Var), .pv (.sl (List.map e_check_Expr v7.C.L.Kids)), .pv (.int .i64 v7.C.R.Kind), .pv (.int .i64 v7.C.R.Num), .pv (.int .i64 v7.C.R.Var), .pv (.sl (List.map e_check_Expr v7.C.R.Kids)), .pv (.bool v13.N.None), .pv (.sl (List.map e_itv_Itv v13.N.I)), .pv (.int .i64 v13.N.Z.N), .pv (.bool v13.N.Z.None)] ++ (bs (e_T42 v13.N.Z.D) ++ ([.row 6, .row 7, .pv (.int .i64 (-1)), .pv (.int .i64 0), .pv (.int .i64 v1.Lo), .pv (.int .i64 v1.Hi)] ++ bs (e_T92 (arr false [false, false, false, false, false, false, false]))))))) rfl rfl (Push.eq (.s (.s (.s (.s (.s (.s (.s (.s .z))))))))) ?_
      refine dl (t := 13) 18 [.c (.box 8 0)] rfl ?_
      refine d_endS (env2 := [(13, [.c (.box 8 0)]), (8, [.c (.box 2 0)]), (9, [.c (.box 3 0)]), (10, [.c (.emp)])]) (wm [0, 0, 0, 4, 12, 0, 60, 124, 0, 256, 1020, 0, 0, 0, 10236, 0, 65535, 131071, 262143]) (by kernel_rfl) (by kernel_rfl) (by kernel_rfl) (oE tbok [] 1 (by kernel_rfl) (owF (by kernel_rfl) (fo_b [8] rfl rfl rfl (by kernel_rfl) (by kernel_rfl) (by kernel_rfl) (gi0 rfl) (bir_box rfl rfl rfl) (by kernel_rfl) (by kernel_rfl)) (oL [8] rfl (by kernel_rfl) (fl_lt (lt_build (cs := ([.pv (.sl (List.map e_check_Chan a0.S.Chans)), .pv (.sl (List.map e_flow_Graph a0.S.Graphs)), .pv (.sl (List.map e_i64 a0.S.Vars)), .pv (.sl (List.map e_queue_Elem a0.Elems)), .pv (.sl (List.map e_bool a0.Deaf)), .pv (.int .i64 a1), .pv (.sl (List.map e_i64 v10)), .pv (.int .i64 a2), .pv (.int .i64 v7.From), .pv (.int .i64 v7.To), .pv (.int .i64 v7.Kind), .pv (.int .i64 v7.Var), .pv (.int .i64 v7.Chan), .pv (.int .i64 v7.Tag), .pv (.int .i64 v7.E.Kind), .pv (.int .i64 v7.E.Num), .pv (.int .i64 v7.E.Var), .pv (.sl (List.map e_check_Expr v7.E.Kids)), .pv (.int .i64 v7.C.Op), .pv (.int .i64 v7.C.L.Kind), .pv (.int .i64 v7.C.L.Num), .pv (.int .i64 v7.C.L.Var), .pv (.sl (List.map e_check_Expr v7.C.L.Kids)), .pv (.int .i64 v7.C.R.Kind), .pv (.int .i64 v7.C.R.Num), .pv (.int .i64 v7.C.R.Var), .pv (.sl (List.map e_check_Expr v7.C.R.Kids)), .pv (.bool v13.N.None), .pv (.sl (List.map e_itv_Itv v13.N.I)), .pv (.int .i64 v13.N.Z.N), .pv (.bool v13.N.Z.None)] ++ (bs (e_T42 v13.N.Z.D) ++ ([.row 6, .row 7, .pv (.int .i64 (-1)), .pv (.int .i64 0), .pv (.int .i64 v1.Lo), .pv (.int .i64 v1.Hi)] ++ bs (e_T92 (arr false [false, false, false, false, false, false, false])))))) rfl st94 rfl (by kernel_rfl))) (oN 1 (by kernel_rfl) (oE tbok [8] 1 (by kernel_rfl) (oN 1 (by kernel_rfl) (oE tbok [8] 2 (by kernel_rfl) (oN 9 (by kernel_rfl) (oE tbok [8] 2 (by kernel_rfl) trivial))))))))) (sub_cons rfl (sub_cons rfl (sub_cons rfl (sub_cons rfl sub_nil)))) wT ?_
      refine then_ ?_
      refine seq_ ?_
      refine region_ ?_
      refine R tbok 1 [79, 13, 8, 9, 10] [(79, [.c (.box 8 0)]), (13, [.c (.box 8 0)]), (8, [.c (.box 2 0)]), (9, [.c (.box 3 0)]), (10, [.c (.emp)])] (by kernel_rfl) ?_
      obtain ⟨v14, k19, h⟩ := bindE h
      refine callS (env' := [(79, [.c (.box 8 0)]), (13, [.c (.box 8 0)]), (8, [.c (.box 2 0)]), (9, [.c (.box 3 0)]), (10, [.c (.emp)])]) (argsX' := []) (st' := [some (.box true 61 [.pv (.sl (List.map e_check_Chan a0.S.Chans)), .pv (.sl (List.map e_flow_Graph a0.S.Graphs)), .pv (.sl (List.map e_i64 a0.S.Vars)), .pv (.sl (List.map e_queue_Elem a0.Elems)), .pv (.sl (List.map e_bool a0.Deaf))]), some (.box true 49 (bs (e_trans_State a3))), some (.box true 49 ([.pv (.bool false), .emp, .pv (.int .i64 0), .pv (.bool false)] ++ (bs (e_T42 (arr (arr 0 []) [(arr 0 [0, 0, 0, 0, 0, 0, 0]), (arr 0 [0, 0, 0, 0, 0, 0, 0]), (arr 0 [0, 0, 0, 0, 0, 0, 0]), (arr 0 [0, 0, 0, 0, 0, 0, 0]), (arr 0 [0, 0, 0, 0, 0, 0, 0]), (arr 0 [0, 0, 0, 0, 0, 0, 0]), (arr 0 [0, 0, 0, 0, 0, 0, 0])])) ++ [.emp, .emp]))), some (.box true 55 [.pv (.int .i64 0), .pv (.int .i64 0), .pv (.int .i64 0), .pv (.int .i64 0)]), some (.box true 55 [.pv (.int .i64 (-1)), .pv (.int .i64 0), .pv (.int .i64 v1.Lo), .pv (.int .i64 v1.Hi)]), some (.box true 31 (bs (e_flow_Edge v7))), none, none, some (.box true 94 (bs (e_trans_stepper v14)))]) [8, 6, 7] [] rfl rfl rfl rfl Try.call26 rfl rfl (by kernel_rfl) (by kernel_rfl) (trans_stepper_step_meets k19) (by kernel_rfl) (by kernel_rfl) (by kernel_rfl) ?_
      refine ops_nil ?_
      refine then_ ?_
      refine seq_ ?_
      refine drawn_ mixed ?_
      refine dl (t := 81) 0 [.c (.box 8 0)] rfl ?_
      refine dl (t := 82) 1 [.c (.box 8 0)] rfl ?_
      refine dl (t := 83) 2 [.c (.box 8 27)] rfl ?_
      refine dl (t := 84) 3 [.agg (bs (e_trans_State v14.f_a))] rfl ?_
      refine dl (t := 85) 4 [.c (.box 8 0)] rfl ?_
      refine dl (t := 86) 5 [.c (.box 8 0)] rfl ?_
      refine dl (t := 87) 6 [.c (.box 8 82)] rfl ?_
      refine dl (t := 88) 7 [.agg [.pv (.int .i64 v14.f_sent.Chan), .pv (.int .i64 v14.f_sent.Tag), .pv (.int .i64 v14.f_sent.Vals.Lo), .pv (.int .i64 v14.f_sent.Vals.Hi)]] rfl ?_
      refine dl (t := 89) 8 [.c (.box 8 0)] rfl ?_
      obtain ⟨v16, k21, h⟩ := bindE h
      refine d_callS (env1 := [(80, []), (79, [.c (.box 8 0)]), (13, [.c (.box 8 0)]), (8, [.c (.box 2 0)]), (9, [.c (.box 3 0)]), (10, [.c (.emp)])]) (T1 := [⟨8, some 89, [.c (.box 8 0)], .light⟩, ⟨7, some 88, [.agg [.pv (.int .i64 v14.f_sent.Chan), .pv (.int .i64 v14.f_sent.Tag), .pv (.int .i64 v14.f_sent.Vals.Lo), .pv (.int .i64 v14.f_sent.Vals.Hi)]], .light⟩, ⟨6, some 87, [.c (.box 8 82)], .light⟩, ⟨5, some 86, [.c (.box 8 0)], .light⟩, ⟨4, some 85, [.c (.box 8 0)], .light⟩, ⟨3, some 84, [.agg (bs (e_trans_State v14.f_a))], .light⟩, ⟨2, some 83, [.c (.box 8 27)], .light⟩, ⟨1, some 82, [.c (.box 8 0)], .light⟩, ⟨0, some 81, [.c (.box 8 0)], .light⟩]) (resX := [.c (.pv (.sl (List.map e_i64 v16)))]) (st' := [some (.box true 61 [.pv (.sl (List.map e_check_Chan a0.S.Chans)), .pv (.sl (List.map e_flow_Graph a0.S.Graphs)), .pv (.sl (List.map e_i64 a0.S.Vars)), .pv (.sl (List.map e_queue_Elem a0.Elems)), .pv (.sl (List.map e_bool a0.Deaf))]), some (.box true 49 (bs (e_trans_State a3))), some (.box true 49 ([.pv (.bool false), .emp, .pv (.int .i64 0), .pv (.bool false)] ++ (bs (e_T42 (arr (arr 0 []) [(arr 0 [0, 0, 0, 0, 0, 0, 0]), (arr 0 [0, 0, 0, 0, 0, 0, 0]), (arr 0 [0, 0, 0, 0, 0, 0, 0]), (arr 0 [0, 0, 0, 0, 0, 0, 0]), (arr 0 [0, 0, 0, 0, 0, 0, 0]), (arr 0 [0, 0, 0, 0, 0, 0, 0]), (arr 0 [0, 0, 0, 0, 0, 0, 0])])) ++ [.emp, .emp]))), some (.box true 55 [.pv (.int .i64 0), .pv (.int .i64 0), .pv (.int .i64 0), .pv (.int .i64 0)]), some (.box true 55 [.pv (.int .i64 (-1)), .pv (.int .i64 0), .pv (.int .i64 v1.Lo), .pv (.int .i64 v1.Hi)]), some (.box true 31 (bs (e_flow_Edge v7))), none, none, some (.box true 94 (bs (e_trans_stepper v14)))]) (wm [0, 1, 3, 7, 0, 16, 48, 112, 0, 256, 783, 2047, 4095]) 9 rfl (by kernel_rfl) (by kernel_rfl) (by kernel_rfl) (by kernel_rfl) (by kernel_rfl) (gi0 rfl) (oE tbok [] 9 (by kernel_rfl) trivial) [8] [8] rfl rfl rfl Try.call27 rfl rfl (by kernel_rfl) (by kernel_rfl) (trans_stepper_kinds_meets k21) (by kernel_rfl) (by kernel_rfl) (by kernel_rfl) (by kernel_rfl) ?_
      refine d_store (wm [0, 1, 3, 7, 0, 16, 48, 112, 0, 256, 783, 2047, 4095]) 10 rfl (by kernel_rfl) (by kernel_rfl) (by kernel_rfl) (by kernel_rfl) (by kernel_rfl) (gi0 rfl) (oN 2 (by kernel_rfl) (oE tbok [] 8 (by kernel_rfl) trivial)) rfl rfl ty49 rfl rfl rfl rfl rfl rfl (putE 55 (.all rfl) rfl (by decide)) (SetAt.eq (.s (.s .z))) ?_
      refine d_store (wm [0, 1, 3, 7, 0, 16, 48, 112, 0, 256, 783, 2047, 4095]) 11 rfl (by kernel_rfl) (by kernel_rfl) (by kernel_rfl) (by kernel_rfl) (by kernel_rfl) (gi0 rfl) (oN 3 (by kernel_rfl) (oE tbok [] 4 (by kernel_rfl) (oN 4 (by kernel_rfl) trivial))) rfl rfl ty55 rfl rfl rfl rfl rfl rfl (putE 4 (.all rfl) rfl (by decide)) (SetAt.eq (.s (.s (.s .z)))) ?_
      refine dl (t := 10) 12 [.c (.pv (.sl (List.map e_i64 v16)))] rfl ?_
      refine d_endS (env2 := [(10, [.c (.pv (.sl (List.map e_i64 v16)))]), (8, [.c (.box 2 0)]), (9, [.c (.box 3 0)])]) (wm [0, 1, 3, 7, 0, 16, 48, 112, 0, 256, 783, 2047, 4095]) (by kernel_rfl) (by kernel_rfl) (by kernel_rfl) (oE tbok [] 1 (by kernel_rfl) (oN 12 (by kernel_rfl) trivial)) (sub_cons rfl (sub_cons rfl (sub_cons rfl sub_nil))) wT ?_
      refine then_ ?_
      refine ret_ ?_
      obtain rfl := retE h
      refine rwr (rw_ (.cellA (ys := (bs (e_trans_State v14.f_a))) ty49 rfl rfl (by kernel_rfl) (by kernel_rfl) (.cellA (ys := [.pv (.int .i64 v14.f_sent.Chan), .pv (.int .i64 v14.f_sent.Tag), .pv (.int .i64 v14.f_sent.Vals.Lo), .pv (.int .i64 v14.f_sent.Vals.Hi)]) ty55 rfl rfl (by kernel_rfl) (by kernel_rfl) (.tmp rfl .nil))) ?_)
      refine w_none 0 .z ?_
      refine w_none 1 (.s .z) ?_
      refine w_none 2 (.s (.s .z)) ?_
      refine w_none 3 (.s (.s (.s .z))) ?_
      refine w_none 4 (.s (.s (.s (.s .z)))) ?_
      refine w_none 5 (.s (.s (.s (.s (.s .z))))) ?_
      refine w_none 8 (.s (.s (.s (.s (.s (.s (.s (.s .z)))))))) ?_
      refine w_cut 0 rfl rfl rfl rfl ?_
      exact wkE (by kernel_rfl) (by kernel_rfl)

theorem r07_Eval_step {n : Nat} (ih_r07_Eval : ∀ (a0 : r04_Expr) (a1 : (List Int)) (r : (Int × Int)), r07_EvalN n a0 a1 = some r → MeetsV Try.prog GG 9 [.agg [.pv (.int .i64 a0.Kind), .pv (.int .i64 a0.Num), .pv (.int .i64 a0.Var), .pv (.sl (List.map e_r04_Expr a0.Kids))], .c (.pv (.sl (List.map e_i64 a1)))] [.c (.pv (.int .i64 r.1)), .c (.pv (.int .i64 r.2))]) (a0 : r04_Expr) (a1 : (List Int)) (r : (Int × Int)) (h : r07_EvalN (n + 1) a0 a1 = some r) : MeetsV Try.prog GG 9 [.agg [.pv (.int .i64 a0.Kind), .pv (.int .i64 a0.Num), .pv (.int .i64 a0.Var), .pv (.sl (List.map e_r04_Expr a0.Kids))], .c (.pv (.sl (List.map e_i64 a1)))] [.c (.pv (.int .i64 r.1)), .c (.pv (.int .i64 r.2))] := by
  refine MeetsS.toV (meetsW_of (st0 := []) (N := 113) r_r07_Eval o_r07_Eval r Try.func9 rfl rfl rfl (by dsimp only [argEnv]) rfl ?_) rfl
  rw [r07_EvalN] at h
  refine seq_ ?_
  refine region_ ?_
  refine B rfl rfl (bir_box rfl rfl rfl) rfl rfl .z ?_
  refine R tbok 2 [5, 4, 2, 1] [(5, [.c (.pv (.int .i64 0))]), (4, [.c (.pv (.int .i64 0))]), (2, [.c (.box 0 0)]), (1, [.c (.pv (.sl (List.map e_i64 a1)))])] (by kernel_rfl) ?_
  refine ops_nil ?_
  refine then_ ?_
  refine seq_ ?_
  refine region_ ?_
  refine B rfl rfl (bir_alloc rfl z96 rfl rfl) rfl rfl (.s .z) ?_
  refine ops_nil ?_
  refine then_ ?_
  refine seq_ ?_
  refine seq_ ?_
  refine region_ ?_
  refine R tbok 1 [7, 6, 5, 4, 2, 1] [(7, [.c (.pv (.int .i64 0))]), (6, [.c (.box 1 0)]), (5, [.c (.pv (.int .i64 0))]), (4, [.c (.pv (.int .i64 0))]), (2, [.c (.box 0 0)]), (1, [.c (.pv (.sl (List.map e_i64 a1)))])] (by kernel_rfl) ?_
  refine ops_nil ?_
  refine then_ ?_
  refine lp_ (Qr := RW Try.prog GG Try.f9 0 r_r07_Eval o_r07_Eval) (r07_Eval_l1 (r07_EvalN n) a0 a1) (fun (x1 : (Int × Int × Int)) => (⟨113, 0, [(1, [.c (.pv (.sl (List.map e_i64 a1)))]), (2, [.c (.box 0 0)]), (6, [.c (.box 1 0)]), (7, [.c (.pv (.int .i64 x1.1))])], [some (.box true 66 [.pv (.int .i64 a0.Kind), .pv (.int .i64 a0.Num), .pv (.int .i64 a0.Var), .pv (.sl (List.map e_r04_Expr a0.Kids))]), some (.box true 96 [.pv (.int .i64 x1.2.1), .pv (.int .i64 x1.2.2)])]⟩ : Sx)) (fun (j1 : (Int × Int)) => (⟨113, 0, [(1, [.c (.pv (.sl (List.map e_i64 a1)))]), (2, [.c (.box 0 0)]), (6, [.c (.box 1 0)])], [some (.box true 66 [.pv (.int .i64 a0.Kind), .pv (.int .i64 a0.Num), .pv (.int .i64 a0.Var), .pv (.sl (List.map e_r04_Expr a0.Kids))]), some (.box true 96 [.pv (.int .i64 j1.1), .pv (.int .i64 j1.2)])]⟩ : Sx)) (0, 0, 0) RW.only h wT ?_ (fun x1 o h => ?_) (fun r h s' hs => ?_) (fun j1 h => ?_)
  · refine w_sub (env' := [(1, [.c (.pv (.sl (List.map e_i64 a1)))]), (2, [.c (.box 0 0)]), (6, [.c (.box 1 0)]), (7, [.c (.pv (.int .i64 0))])]) (sub_cons rfl (sub_cons rfl (sub_cons rfl (sub_cons rfl sub_nil)))) ?_
    exact wkE (by kernel_rfl) (by kernel_rfl)
  · unfold r07_Eval_l1 at h
    refine seq_ ?_
    refine seq_ ?_
    refine jn_ (fun (j2 : Bool) => (⟨113, 0, [(1, [.c (.pv (.sl (List.map e_i64 a1)))]), (2, [.c (.box 0 0)]), (6, [.c (.box 1 0)]), (7, [.c (.pv (.int .i64 x1.1))]), (19, [.c (.pv (.bool j2))])], [some (.box true 66 [.pv (.int .i64 a0.Kind), .pv (.int .i64 a0.Num), .pv (.int .i64 a0.Var), .pv (.sl (List.map e_r04_Expr a0.Kids))]), some (.box true 96 [.pv (.int .i64 x1.2.1), .pv (.int .i64 x1.2.2)])]⟩ : Sx)) h wT (fun o h => ?_) (fun j2 h => ?_)
    · refine region_ ?_
      refine R tbok 3 [13, 11, 1, 2, 6, 7] [(13, [.c (.pv (.sl (List.map e_r04_Expr a0.Kids)))]), (11, [.c (.pv (.int .i64 x1.1))]), (1, [.c (.pv (.sl (List.map e_i64 a1)))]), (2, [.c (.box 0 0)]), (6, [.c (.box 1 0)]), (7, [.c (.pv (.int .i64 x1.1))])] (by kernel_rfl) ?_
      refine L rfl rfl (len_sl (e := e_r04_Expr) rfl u64 rfl) rfl ?_
      refine R tbok 2 [16, 1, 2, 6, 7] [(16, [.c (.pv (.bool (decide (x1.1 < (a0.Kids.length : Int)))))]), (1, [.c (.pv (.sl (List.map e_i64 a1)))]), (2, [.c (.box 0 0)]), (6, [.c (.box 1 0)]), (7, [.c (.pv (.int .i64 x1.1))])] (by kernel_rfl) ?_
      refine (tf (decide (x1.1 < (a0.Kids.length : Int)))).elim (fun k1 => ?_) (fun k1 => ?_)
      · have h := iteT h k1
        refine Lg rfl rfl rfl k1 rfl (lt_move rfl rfl) rfl ?_
        refine Lg rfl rfl rfl k1 rfl (lt_int rfl rfl rfl rfl) rfl ?_
        refine L rfl rfl (lt_pickT rfl rfl k1 rfl) rfl ?_
        refine ops_nil ?_
        obtain rfl := retE h
        refine mN ?_
        refine w_sub (env' := [(1, [.c (.pv (.sl (List.map e_i64 a1)))]), (2, [.c (.box 0 0)]), (6, [.c (.box 1 0)]), (7, [.c (.pv (.int .i64 x1.1))]), (19, [.c (.pv (.bool (decide (x1.1 < 2))))])]) (sub_cons rfl (sub_cons rfl (sub_cons rfl (sub_cons rfl (sub_cons rfl sub_nil))))) ?_
        exact wkE (by kernel_rfl) (by kernel_rfl)
      · have h := iteF h k1
        refine Ls0 rfl rfl rfl k1 rfl rfl ?_
        refine Ls0 rfl rfl rfl k1 rfl rfl ?_
        refine L rfl rfl (lt_pickF rfl rfl k1 rfl) rfl ?_
        refine ops_nil ?_
        obtain rfl := retE h
        refine mN ?_
        refine w_sub (env' := [(1, [.c (.pv (.sl (List.map e_i64 a1)))]), (2, [.c (.box 0 0)]), (6, [.c (.box 1 0)]), (7, [.c (.pv (.int .i64 x1.1))]), (19, [.c (.pv (.bool false))])]) (sub_cons rfl (sub_cons rfl (sub_cons rfl (sub_cons rfl (sub_cons rfl sub_nil))))) ?_
        exact wkE (by kernel_rfl) (by kernel_rfl)
    · refine then_ ?_
      refine cond_ (b := j2) rfl (fun k2 => ?_) (fun k2 => ?_)
      · have h := iteT h k2
        refine skip_ ?_
        refine then_ ?_
        refine seq_ ?_
        refine block_ ?_
        refine seq_ ?_
        refine region_ ?_
        refine R tbok 3 [25, 24, 1, 2, 6, 7] [(25, [.c (.pv (.int .i64 x1.1))]), (24, [.c (.pv (.sl (List.map e_r04_Expr a0.Kids)))]), (1, [.c (.pv (.sl (List.map e_i64 a1)))]), (2, [.c (.box 0 0)]), (6, [.c (.box 1 0)]), (7, [.c (.pv (.int .i64 x1.1))])] (by kernel_rfl) ?_
        obtain ⟨v1, k3, h⟩ := bindE h
        refine L rfl rfl (ia_slR (e := e_r04_Expr) (y := v1) rfl u64 ty66 rfl rfl k3 (e_r04_Expr_eq v1) rfl) rfl ?_
        refine R tbok 2 [28, 27, 1, 2, 6, 7] [(28, [.c (.pv (.sl (List.map e_i64 a1)))]), (27, [.agg [.pv (.int .i64 v1.Kind), .pv (.int .i64 v1.Num), .pv (.int .i64 v1.Var), .pv (.sl (List.map e_r04_Expr v1.Kids))]]), (1, [.c (.pv (.sl (List.map e_i64 a1)))]), (2, [.c (.box 0 0)]), (6, [.c (.box 1 0)]), (7, [.c (.pv (.int .i64 x1.1))])] (by kernel_rfl) ?_
        obtain ⟨v2, k4, h⟩ := bindE h
        refine C rfl rfl (fl_call rfl Try.call9 rfl (by kernel_rfl) (by kernel_rfl) (ih_r07_Eval _ _ _ k4)) rfl ?_
        refine R tbok 5 [9, 8, 1, 2, 6, 7] [(9, [.c (.pv (.int .i64 v2.2))]), (8, [.c (.pv (.int .i64 v2.1))]), (1, [.c (.pv (.sl (List.map e_i64 a1)))]), (2, [.c (.box 0 0)]), (6, [.c (.box 1 0)]), (7, [.c (.pv (.int .i64 x1.1))])] (by kernel_rfl) ?_
        refine ops_nil ?_
        refine then_ ?_
        refine seq_ ?_
        refine seq_ ?_
        refine region_ ?_
        refine R tbok 2 [33, 9, 8, 1, 2, 6, 7] [(33, [.c (.pv (.bool (v2.2 != 0)))]), (9, [.c (.pv (.int .i64 v2.2))]), (8, [.c (.pv (.int .i64 v2.1))]), (1, [.c (.pv (.sl (List.map e_i64 a1)))]), (2, [.c (.box 0 0)]), (6, [.c (.box 1 0)]), (7, [.c (.pv (.int .i64 x1.1))])] (by kernel_rfl) ?_
        refine ops_nil ?_
        refine then_ ?_
        refine cond_ (b := (v2.2 != 0)) rfl (fun k5 => ?_) (fun k5 => ?_)
        · have h := iteT h k5
          refine seq_ ?_
          refine region_ ?_
          refine R tbok 3 [5, 4, 8, 1, 2, 6, 7] [(5, [.c (.pv (.int .i64 v2.2))]), (4, [.c (.pv (.int .i64 0))]), (8, [.c (.pv (.int .i64 v2.1))]), (1, [.c (.pv (.sl (List.map e_i64 a1)))]), (2, [.c (.box 0 0)]), (6, [.c (.box 1 0)]), (7, [.c (.pv (.int .i64 x1.1))])] (by kernel_rfl) ?_
          refine ops_nil ?_
          refine then_ ?_
          refine ret_ ?_
          obtain rfl := retE h
          refine tR (bR (tR (lR (rw_ (.tmp rfl (.tmp rfl .nil)) ?_))))
          refine w_none 0 .z ?_
          refine w_none 1 (.s .z) ?_
          refine w_cut 0 rfl rfl rfl rfl ?_
          exact wkE (by kernel_rfl) (by kernel_rfl)
        · have h := iteF h k5
          refine skip_ ?_
          refine then_ ?_
          refine region_ ?_
          refine R tbok 2 [36, 35, 1, 2, 6, 7] [(36, [.c (.pv (.int .i64 v2.1))]), (35, [.c (.pv (.int .i64 x1.1))]), (1, [.c (.pv (.sl (List.map e_i64 a1)))]), (2, [.c (.box 0 0)]), (6, [.c (.box 1 0)]), (7, [.c (.pv (.int .i64 x1.1))])] (by kernel_rfl) ?_
          obtain ⟨v3, k6, h⟩ := bindE h
          refine L rfl rfl (ia_boxD rfl u96 ty3 rfl rfl k6) rfl ?_
          obtain ⟨v4, k7, h⟩ := bindE h
          refine SD [.pv (.int .i64 (v4 0)), .pv (.int .i64 (v4 1))] rfl rfl rfl ty3 (by decide) rfl rfl rfl rfl rfl (fit1 (e := (PV.int .i64)) (D := (arr 0 [x1.2.1, x1.2.2])) (pre := []) (post := []) (len := 2) (by kernel_rfl) (inA_lt k6)) (put1 (e := (PV.int .i64)) (D := (arr 0 [x1.2.1, x1.2.2])) (pre := []) (post := []) (len := 2) (by kernel_rfl) (inA_lt k6) (retE k7) (by kernel_rfl)) (SetAt.eq (.s .z)) ?_
          refine ops_nil ?_
          refine bN ?_
          refine then_ ?_
          refine region_ ?_
          refine R tbok 3 [7, 1, 2, 6] [(7, [.c (.pv (.int .i64 (IntKind.i64.wrap (x1.1 + 1))))]), (1, [.c (.pv (.sl (List.map e_i64 a1)))]), (2, [.c (.box 0 0)]), (6, [.c (.box 1 0)])] (by kernel_rfl) ?_
          refine ops_nil ?_
          obtain rfl := retE h
          refine lN ?_
          refine w_sub (env' := [(1, [.c (.pv (.sl (List.map e_i64 a1)))]), (2, [.c (.box 0 0)]), (6, [.c (.box 1 0)]), (7, [.c (.pv (.int .i64 (IntKind.i64.wrap (x1.1 + 1))))])]) (sub_cons rfl (sub_cons rfl (sub_cons rfl (sub_cons rfl sub_nil)))) ?_
          exact wkE (by kernel_rfl) (by kernel_rfl)
      · have h := iteF h k2
        refine exit_ ?_
        refine tX ?_
        obtain rfl := retE h
        refine lX ?_
        refine w_sub (env' := [(1, [.c (.pv (.sl (List.map e_i64 a1)))]), (2, [.c (.box 0 0)]), (6, [.c (.box 1 0)])]) (sub_cons rfl (sub_cons rfl (sub_cons rfl sub_nil))) ?_
        exact wkE (by kernel_rfl) (by kernel_rfl)
  · have h := elimL h
    obtain rfl := retE h
    exact (tR (rwr hs))
  · have h := elimR h
    refine then_ ?_
    refine seq_ ?_
    refine region_ ?_
    refine R tbok 1 [10, 1, 2, 6] [(10, [.c (.pv (.int .i64 0))]), (1, [.c (.pv (.sl (List.map e_i64 a1)))]), (2, [.c (.box 0 0)]), (6, [.c (.box 1 0)])] (by kernel_rfl) ?_
    refine ops_nil ?_
    refine then_ ?_
    refine seq_ ?_
    refine jr_ (Qr := RW Try.prog GG Try.f9 0 r_r07_Eval o_r07_Eval) (fun (j3 : Int) => (⟨113, 0, [(10, [.c (.pv (.int .i64 j3))])], []⟩ : Sx)) RW.only h wT (fun o h => ?_) (fun r h s' hs => ?_) (fun j3 h => ?_)
    · refine seq_ ?_
      refine region_ ?_
      refine R tbok 2 [39, 10, 1, 2, 6] [(39, [.c (.pv (.int .i64 a0.Kind))]), (10, [.c (.pv (.int .i64 0))]), (1, [.c (.pv (.sl (List.map e_i64 a1)))]), (2, [.c (.box 0 0)]), (6, [.c (.box 1 0)])] (by kernel_rfl) ?_
      refine ops_nil ?_
      refine then_ ?_
      refine block_ ?_
      refine seq_ ?_
      refine region_ ?_
      refine R tbok 2 [40, 39, 10, 1, 2, 6] [(40, [.c (.pv (.bool (a0.Kind == 1)))]), (39, [.c (.pv (.int .i64 a0.Kind))]), (10, [.c (.pv (.int .i64 0))]), (1, [.c (.pv (.sl (List.map e_i64 a1)))]), (2, [.c (.box 0 0)]), (6, [.c (.box 1 0)])] (by kernel_rfl) ?_
      refine ops_nil ?_
      refine then_ ?_
      refine cond_ (b := (a0.Kind == 1)) rfl (fun k8 => ?_) (fun k8 => ?_)
      · have h := iteT h k8
        refine region_ ?_
        refine R tbok 3 [10] [(10, [.c (.pv (.int .i64 a0.Num))])] (by kernel_rfl) ?_
        refine ops_nil ?_
        refine bN ?_
        obtain rfl := retE h
        refine mRN ?_
        refine w_cut 0 rfl rfl rfl rfl ?_
        exact wkE (by kernel_rfl) (by kernel_rfl)
      · have h := iteF h k8
        refine seq_ ?_
        refine region_ ?_
        refine R tbok 2 [44, 39, 10, 1, 2, 6] [(44, [.c (.pv (.bool (a0.Kind == 2)))]), (39, [.c (.pv (.int .i64 a0.Kind))]), (10, [.c (.pv (.int .i64 0))]), (1, [.c (.pv (.sl (List.map e_i64 a1)))]), (2, [.c (.box 0 0)]), (6, [.c (.box 1 0)])] (by kernel_rfl) ?_
        refine ops_nil ?_
        refine then_ ?_
        refine cond_ (b := (a0.Kind == 2)) rfl (fun k9 => ?_) (fun k9 => ?_)
        · have h := iteT h k9
          refine seq_ ?_
          refine jn_ (fun (j4 : Bool) => (⟨113, 0, [(1, [.c (.pv (.sl (List.map e_i64 a1)))]), (2, [.c (.box 0 0)]), (10, [.c (.pv (.int .i64 0))]), (55, [.c (.pv (.bool j4))])], [some (.box true 66 [.pv (.int .i64 a0.Kind), .pv (.int .i64 a0.Num), .pv (.int .i64 a0.Var), .pv (.sl (List.map e_r04_Expr a0.Kids))])]⟩ : Sx)) h wT (fun o h => ?_) (fun j4 h => ?_)
          · refine region_ ?_
            refine R tbok 4 [49, 10, 1, 2] [(49, [.c (.pv (.bool (decide (a0.Var ≥ 0))))]), (10, [.c (.pv (.int .i64 0))]), (1, [.c (.pv (.sl (List.map e_i64 a1)))]), (2, [.c (.box 0 0)])] (by kernel_rfl) ?_
            refine (tf (decide (a0.Var ≥ 0))).elim (fun k10 => ?_) (fun k10 => ?_)
            · have h := iteT h k10
              refine Lg rfl rfl rfl k10 rfl (lt_fa_box rfl f66_2 ty3 (by decide) rfl) rfl ?_
              refine Lg rfl rfl rfl k10 rfl (lt_load_box rfl ty3 rfl rfl rfl) rfl ?_
              refine Lg rfl rfl rfl k10 rfl (lt_move rfl rfl) rfl ?_
              refine Lg rfl rfl rfl k10 rfl (len_sl (e := e_i64) rfl u33 rfl) rfl ?_
              refine Lg rfl rfl rfl k10 rfl (lt_int rfl rfl rfl rfl) rfl ?_
              refine L rfl rfl (lt_pickT rfl rfl k10 rfl) rfl ?_
              refine ops_nil ?_
              obtain rfl := retE h
              refine mN ?_
              refine w_sub (env' := [(1, [.c (.pv (.sl (List.map e_i64 a1)))]), (2, [.c (.box 0 0)]), (10, [.c (.pv (.int .i64 0))]), (55, [.c (.pv (.bool (decide (a0.Var < (a1.length : Int)))))])]) (sub_cons rfl (sub_cons rfl (sub_cons rfl (sub_cons rfl sub_nil)))) ?_
              refine w_cut 1 rfl rfl rfl rfl ?_
              exact wkE (by kernel_rfl) (by kernel_rfl)
            · have h := iteF h k10
              refine Ls0 rfl rfl rfl k10 rfl rfl ?_
              refine Ls0 rfl rfl rfl k10 rfl rfl ?_
              refine Ls0 rfl rfl rfl k10 rfl rfl ?_
              refine Ls0 rfl rfl rfl k10 rfl rfl ?_
              refine Ls0 rfl rfl rfl k10 rfl rfl ?_
              refine L rfl rfl (lt_pickF rfl rfl k10 rfl) rfl ?_
              refine ops_nil ?_
              obtain rfl := retE h
              refine mN ?_
              refine w_sub (env' := [(1, [.c (.pv (.sl (List.map e_i64 a1)))]), (2, [.c (.box 0 0)]), (10, [.c (.pv (.int .i64 0))]), (55, [.c (.pv (.bool false))])]) (sub_cons rfl (sub_cons rfl (sub_cons rfl (sub_cons rfl sub_nil)))) ?_
              refine w_cut 1 rfl rfl rfl rfl ?_
              exact wkE (by kernel_rfl) (by kernel_rfl)
          · refine then_ ?_
            refine cond_ (b := j4) rfl (fun k11 => ?_) (fun k11 => ?_)
            · have h := iteT h k11
              refine region_ ?_
              refine R tbok 3 [58, 56, 10] [(58, [.c (.pv (.int .i64 a0.Var))]), (56, [.c (.pv (.sl (List.map e_i64 a1)))]), (10, [.c (.pv (.int .i64 0))])] (by kernel_rfl) ?_
              obtain ⟨v5, k12, h⟩ := bindE h
              refine L rfl rfl (ia_sl (e := e_i64) (y := v5) rfl u33 ty3 rfl rfl k12 rfl) rfl ?_
              refine R tbok 2 [10] [(10, [.c (.pv (.int .i64 v5))])] (by kernel_rfl) ?_
              refine ops_nil ?_
              refine bN ?_
              obtain rfl := retE h
              refine mRN ?_
              refine w_cut 0 rfl rfl rfl rfl ?_
              exact wkE (by kernel_rfl) (by kernel_rfl)
            · have h := iteF h k11
              refine skip_ ?_
              refine bN ?_
              obtain rfl := retE h
              refine mRN ?_
              refine w_sub (env' := [(10, [.c (.pv (.int .i64 0))])]) (sub_cons rfl sub_nil) ?_
              refine w_cut 0 rfl rfl rfl rfl ?_
              exact wkE (by kernel_rfl) (by kernel_rfl)
        · have h := iteF h k9
          refine seq_ ?_
          refine region_ ?_
          refine R tbok 2 [61, 39, 10, 2, 6] [(61, [.c (.pv (.bool (a0.Kind == 3)))]), (39, [.c (.pv (.int .i64 a0.Kind))]), (10, [.c (.pv (.int .i64 0))]), (2, [.c (.box 0 0)]), (6, [.c (.box 1 0)])] (by kernel_rfl) ?_
          refine ops_nil ?_
          refine then_ ?_
          refine cond_ (b := (a0.Kind == 3)) rfl (fun k13 => ?_) (fun k13 => ?_)
          · have h := iteT h k13
            refine region_ ?_
            refine L rfl rfl (ia_box rfl u96 ty3 rfl rfl rfl 0 rfl) rfl ?_
            refine R tbok 3 [10] [(10, [.c (.pv (.int .i64 (IntKind.i64.wrap (0 - j1.1))))])] (by kernel_rfl) ?_
            refine ops_nil ?_
            refine bN ?_
            obtain rfl := retE h
            refine mRN ?_
            refine w_cut 0 rfl rfl rfl rfl ?_
            exact wkE (by kernel_rfl) (by kernel_rfl)
          · have h := iteF h k13
            refine seq_ ?_
            refine region_ ?_
            refine R tbok 2 [66, 39, 10, 2, 6] [(66, [.c (.pv (.bool (a0.Kind == 4)))]), (39, [.c (.pv (.int .i64 a0.Kind))]), (10, [.c (.pv (.int .i64 0))]), (2, [.c (.box 0 0)]), (6, [.c (.box 1 0)])] (by kernel_rfl) ?_
            refine ops_nil ?_
            refine then_ ?_
            refine cond_ (b := (a0.Kind == 4)) rfl (fun k14 => ?_) (fun k14 => ?_)
            · have h := iteT h k14
              refine region_ ?_
              refine L rfl rfl (ia_box rfl u96 ty3 rfl rfl rfl 0 rfl) rfl ?_
              refine R tbok 1 [69, 10, 6] [(69, [.c (.pv (.int .i64 j1.1))]), (10, [.c (.pv (.int .i64 0))]), (6, [.c (.box 1 0)])] (by kernel_rfl) ?_
              refine L rfl rfl (ia_box rfl u96 ty3 rfl rfl rfl 1 rfl) rfl ?_
              refine R tbok 3 [10] [(10, [.c (.pv (.int .i64 (IntKind.i64.wrap (j1.1 + j1.2))))])] (by kernel_rfl) ?_
              refine ops_nil ?_
              refine bN ?_
              obtain rfl := retE h
              refine mRN ?_
              refine w_cut 0 rfl rfl rfl rfl ?_
              exact wkE (by kernel_rfl) (by kernel_rfl)
            · have h := iteF h k14
              refine seq_ ?_
              refine region_ ?_
              refine R tbok 2 [73, 39, 10, 2, 6] [(73, [.c (.pv (.bool (a0.Kind == 5)))]), (39, [.c (.pv (.int .i64 a0.Kind))]), (10, [.c (.pv (.int .i64 0))]), (2, [.c (.box 0 0)]), (6, [.c (.box 1 0)])] (by kernel_rfl) ?_
              refine ops_nil ?_
              refine then_ ?_
              refine cond_ (b := (a0.Kind == 5)) rfl (fun k15 => ?_) (fun k15 => ?_)
              · have h := iteT h k15
                refine region_ ?_
                refine L rfl rfl (ia_box rfl u96 ty3 rfl rfl rfl 0 rfl) rfl ?_
                refine R tbok 1 [76, 10, 6] [(76, [.c (.pv (.int .i64 j1.1))]), (10, [.c (.pv (.int .i64 0))]), (6, [.c (.box 1 0)])] (by kernel_rfl) ?_
                refine L rfl rfl (ia_box rfl u96 ty3 rfl rfl rfl 1 rfl) rfl ?_
                refine R tbok 3 [10] [(10, [.c (.pv (.int .i64 (IntKind.i64.wrap (j1.1 - j1.2))))])] (by kernel_rfl) ?_
                refine ops_nil ?_
                refine bN ?_
                obtain rfl := retE h
                refine mRN ?_
                refine w_cut 0 rfl rfl rfl rfl ?_
                exact wkE (by kernel_rfl) (by kernel_rfl)
              · have h := iteF h k15
                refine seq_ ?_
                refine region_ ?_
                refine R tbok 2 [80, 39, 10, 2, 6] [(80, [.c (.pv (.bool (a0.Kind == 6)))]), (39, [.c (.pv (.int .i64 a0.Kind))]), (10, [.c (.pv (.int .i64 0))]), (2, [.c (.box 0 0)]), (6, [.c (.box 1 0)])] (by kernel_rfl) ?_
                refine ops_nil ?_
                refine then_ ?_
                refine cond_ (b := (a0.Kind == 6)) rfl (fun k16 => ?_) (fun k16 => ?_)
                · have h := iteT h k16
                  refine region_ ?_
                  refine L rfl rfl (ia_box rfl u96 ty3 rfl rfl rfl 0 rfl) rfl ?_
                  refine R tbok 1 [83, 10, 6] [(83, [.c (.pv (.int .i64 j1.1))]), (10, [.c (.pv (.int .i64 0))]), (6, [.c (.box 1 0)])] (by kernel_rfl) ?_
                  refine L rfl rfl (ia_box rfl u96 ty3 rfl rfl rfl 1 rfl) rfl ?_
                  refine R tbok 3 [10] [(10, [.c (.pv (.int .i64 (IntKind.i64.wrap (j1.1 * j1.2))))])] (by kernel_rfl) ?_
                  refine ops_nil ?_
                  refine bN ?_
                  obtain rfl := retE h
                  refine mRN ?_
                  refine w_cut 0 rfl rfl rfl rfl ?_
                  exact wkE (by kernel_rfl) (by kernel_rfl)
                · have h := iteF h k16
                  refine seq_ ?_
                  refine jn_ (fun (j5 : Bool) => (⟨113, 0, [(2, [.c (.box 0 0)]), (6, [.c (.box 1 0)]), (10, [.c (.pv (.int .i64 0))]), (87, [.c (.pv (.bool j5))])], [some (.box true 66 [.pv (.int .i64 a0.Kind), .pv (.int .i64 a0.Num), .pv (.int .i64 a0.Var), .pv (.sl (List.map e_r04_Expr a0.Kids))]), some (.box true 96 [.pv (.int .i64 j1.1), .pv (.int .i64 j1.2)])]⟩ : Sx)) h wT (fun o h => ?_) (fun j5 h => ?_)
                  · refine seq_ ?_
                    refine region_ ?_
                    refine R tbok 2 [87, 39, 10, 2, 6] [(87, [.c (.pv (.bool (a0.Kind == 7)))]), (39, [.c (.pv (.int .i64 a0.Kind))]), (10, [.c (.pv (.int .i64 0))]), (2, [.c (.box 0 0)]), (6, [.c (.box 1 0)])] (by kernel_rfl) ?_
                    refine ops_nil ?_
                    refine then_ ?_
                    refine cond_ (b := (a0.Kind == 7)) rfl (fun k17 => ?_) (fun k17 => ?_)
                    · have h := iteT h k17
                      refine skip_ ?_
                      obtain rfl := retE h
                      refine mN ?_
                      refine w_sub (env' := [(2, [.c (.box 0 0)]), (6, [.c (.box 1 0)]), (10, [.c (.pv (.int .i64 0))]), (87, [.c (.pv (.bool (a0.Kind == 7)))])]) (sub_cons rfl (sub_cons rfl (sub_cons rfl (sub_cons rfl sub_nil)))) ?_
                      exact wkE (by kernel_rfl) (by kernel_rfl)
                    · have h := iteF h k17
                      refine region_ ?_
                      refine R tbok 2 [87, 10, 2, 6] [(87, [.c (.pv (.bool (a0.Kind == 8)))]), (10, [.c (.pv (.int .i64 0))]), (2, [.c (.box 0 0)]), (6, [.c (.box 1 0)])] (by kernel_rfl) ?_
                      refine ops_nil ?_
                      obtain rfl := retE h
                      refine mN ?_
                      refine w_sub (env' := [(2, [.c (.box 0 0)]), (6, [.c (.box 1 0)]), (10, [.c (.pv (.int .i64 0))]), (87, [.c (.pv (.bool (a0.Kind == 8)))])]) (sub_cons rfl (sub_cons rfl (sub_cons rfl (sub_cons rfl sub_nil)))) ?_
                      exact wkE (by kernel_rfl) (by kernel_rfl)
                  · refine then_ ?_
                    refine cond_ (b := j5) rfl (fun k18 => ?_) (fun k18 => ?_)
                    · have h := iteT h k18
                      refine seq_ ?_
                      refine seq_ ?_
                      refine region_ ?_
                      refine L rfl rfl (ia_box rfl u96 ty3 rfl rfl rfl 1 rfl) rfl ?_
                      refine R tbok 2 [92, 2, 6, 10] [(92, [.c (.pv (.bool (j1.2 == 0)))]), (2, [.c (.box 0 0)]), (6, [.c (.box 1 0)]), (10, [.c (.pv (.int .i64 0))])] (by kernel_rfl) ?_
                      refine ops_nil ?_
                      refine then_ ?_
                      refine cond_ (b := (j1.2 == 0)) rfl (fun k19 => ?_) (fun k19 => ?_)
                      · have h := iteT h k19
                        refine seq_ ?_
                        refine region_ ?_
                        refine R tbok 2 [5, 4, 2, 6, 10] [(5, [.c (.pv (.int .i64 3))]), (4, [.c (.pv (.int .i64 0))]), (2, [.c (.box 0 0)]), (6, [.c (.box 1 0)]), (10, [.c (.pv (.int .i64 0))])] (by kernel_rfl) ?_
                        refine ops_nil ?_
                        refine then_ ?_
                        refine ret_ ?_
                        obtain rfl := retE h
                        refine tR (bR (mRR (rw_ (.tmp rfl (.tmp rfl .nil)) ?_)))
                        refine w_none 0 .z ?_
                        refine w_none 1 (.s .z) ?_
                        refine w_cut 0 rfl rfl rfl rfl ?_
                        exact wkE (by kernel_rfl) (by kernel_rfl)
                      · have h := iteF h k19
                        refine skip_ ?_
                        refine then_ ?_
                        refine seq_ ?_
                        refine region_ ?_
                        refine R tbok 3 [95, 6, 10] [(95, [.c (.pv (.bool (a0.Kind == 7)))]), (6, [.c (.box 1 0)]), (10, [.c (.pv (.int .i64 0))])] (by kernel_rfl) ?_
                        refine ops_nil ?_
                        refine then_ ?_
                        refine cond_ (b := (a0.Kind == 7)) rfl (fun k20 => ?_) (fun k20 => ?_)
                        · have h := iteT h k20
                          refine region_ ?_
                          refine L rfl rfl (ia_box rfl u96 ty3 rfl rfl rfl 0 rfl) rfl ?_
                          refine R tbok 1 [97, 6, 10] [(97, [.c (.pv (.int .i64 j1.1))]), (6, [.c (.box 1 0)]), (10, [.c (.pv (.int .i64 0))])] (by kernel_rfl) ?_
                          refine L rfl rfl (ia_box rfl u96 ty3 rfl rfl rfl 1 rfl) rfl ?_
                          refine R tbok 1 [99, 97, 10] [(99, [.c (.pv (.int .i64 j1.2))]), (97, [.c (.pv (.int .i64 j1.1))]), (10, [.c (.pv (.int .i64 0))])] (by kernel_rfl) ?_
                          obtain ⟨v6, k21, h⟩ := bindE h
                          refine L rfl rfl (quo_ rfl rfl rfl k21) rfl ?_
                          refine R tbok 1 [10] [(10, [.c (.pv (.int .i64 v6))])] (by kernel_rfl) ?_
                          refine ops_nil ?_
                          refine bN ?_
                          obtain rfl := retE h
                          refine mRN ?_
                          refine w_cut 0 rfl rfl rfl rfl ?_
                          exact wkE (by kernel_rfl) (by kernel_rfl)
                        · have h := iteF h k20
                          refine region_ ?_
                          refine L rfl rfl (ia_box rfl u96 ty3 rfl rfl rfl 0 rfl) rfl ?_
                          refine R tbok 1 [102, 6, 10] [(102, [.c (.pv (.int .i64 j1.1))]), (6, [.c (.box 1 0)]), (10, [.c (.pv (.int .i64 0))])] (by kernel_rfl) ?_
                          refine L rfl rfl (ia_box rfl u96 ty3 rfl rfl rfl 1 rfl) rfl ?_
                          refine R tbok 1 [104, 102, 10] [(104, [.c (.pv (.int .i64 j1.2))]), (102, [.c (.pv (.int .i64 j1.1))]), (10, [.c (.pv (.int .i64 0))])] (by kernel_rfl) ?_
                          obtain ⟨v7, k22, h⟩ := bindE h
                          refine L rfl rfl (rem_ rfl rfl rfl k22) rfl ?_
                          refine R tbok 1 [10] [(10, [.c (.pv (.int .i64 v7))])] (by kernel_rfl) ?_
                          refine ops_nil ?_
                          refine bN ?_
                          obtain rfl := retE h
                          refine mRN ?_
                          refine w_cut 0 rfl rfl rfl rfl ?_
                          exact wkE (by kernel_rfl) (by kernel_rfl)
                    · have h := iteF h k18
                      refine skip_ ?_
                      refine bN ?_
                      obtain rfl := retE h
                      refine mRN ?_
                      refine w_sub (env' := [(10, [.c (.pv (.int .i64 0))])]) (sub_cons rfl sub_nil) ?_
                      refine w_cut 0 rfl rfl rfl rfl ?_
                      exact wkE (by kernel_rfl) (by kernel_rfl)
    · have h := elimL h
      obtain rfl := retE h
      exact (tR (rwr hs))
    · have h := elimR h
      refine then_ ?_
      refine seq_ ?_
      refine seq_ ?_
      refine jn_ (fun (j6 : Bool) => (⟨113, 0, [(10, [.c (.pv (.int .i64 j3))]), (111, [.c (.pv (.bool j6))])], []⟩ : Sx)) h wT (fun o h => ?_) (fun j6 h => ?_)
      · refine region_ ?_
        refine R tbok 3 [108, 10] [(108, [.c (.pv (.bool (decide (j3 < (-2147483648)))))]), (10, [.c (.pv (.int .i64 j3))])] (by kernel_rfl) ?_
        refine (tf (decide (j3 < (-2147483648)))).elim (fun k23 => ?_) (fun k23 => ?_)
        · have h := iteT h k23
          refine Ls0 rfl rfl rfl k23 rfl rfl ?_
          refine Ls0 rfl rfl rfl k23 rfl rfl ?_
          refine L rfl rfl (lt_pickT rfl rfl k23 rfl) rfl ?_
          refine ops_nil ?_
          obtain rfl := retE h
          refine mN ?_
          refine w_sub (env' := [(10, [.c (.pv (.int .i64 j3))]), (111, [.c (.pv (.bool true))])]) (sub_cons rfl (sub_cons rfl sub_nil)) ?_
          exact wkE (by kernel_rfl) (by kernel_rfl)
        · have h := iteF h k23
          refine Lg rfl rfl rfl k23 rfl (lt_move rfl rfl) rfl ?_
          refine Lg rfl rfl rfl k23 rfl (lt_int rfl rfl rfl rfl) rfl ?_
          refine L rfl rfl (lt_pickF rfl rfl k23 rfl) rfl ?_
          refine ops_nil ?_
          obtain rfl := retE h
          refine mN ?_
          refine w_sub (env' := [(10, [.c (.pv (.int .i64 j3))]), (111, [.c (.pv (.bool (decide (j3 > 2147483647))))])]) (sub_cons rfl (sub_cons rfl sub_nil)) ?_
          exact wkE (by kernel_rfl) (by kernel_rfl)
      · refine then_ ?_
        refine cond_ (b := j6) rfl (fun k24 => ?_) (fun k24 => ?_)
        · have h := iteT h k24
          refine seq_ ?_
          refine region_ ?_
          refine R tbok 2 [5, 4, 10] [(5, [.c (.pv (.int .i64 2))]), (4, [.c (.pv (.int .i64 0))]), (10, [.c (.pv (.int .i64 j3))])] (by kernel_rfl) ?_
          refine ops_nil ?_
          refine then_ ?_
          refine ret_ ?_
          obtain rfl := retE h
          refine tR (rwr (rw_ (.tmp rfl (.tmp rfl .nil)) ?_))
          exact wkE (by kernel_rfl) (by kernel_rfl)
        · have h := iteF h k24
          refine skip_ ?_
          refine then_ ?_
          refine seq_ ?_
          refine region_ ?_
          refine R tbok 3 [5, 4] [(5, [.c (.pv (.int .i64 0))]), (4, [.c (.pv (.int .i64 j3))])] (by kernel_rfl) ?_
          refine ops_nil ?_
          refine then_ ?_
          refine ret_ ?_
          obtain rfl := retE h
          refine rwr (rw_ (.tmp rfl (.tmp rfl .nil)) ?_)
          exact wkE (by kernel_rfl) (by kernel_rfl)

theorem r07_Eval_all : ∀ n : Nat, (∀ (a0 : r04_Expr) (a1 : (List Int)) (r : (Int × Int)), r07_EvalN n a0 a1 = some r → MeetsV Try.prog GG 9 [.agg [.pv (.int .i64 a0.Kind), .pv (.int .i64 a0.Num), .pv (.int .i64 a0.Var), .pv (.sl (List.map e_r04_Expr a0.Kids))], .c (.pv (.sl (List.map e_i64 a1)))] [.c (.pv (.int .i64 r.1)), .c (.pv (.int .i64 r.2))])
  | 0 => (fun _ _ _ h => by rw [r07_EvalN] at h; cases h)
  | n + 1 => r07_Eval_step (r07_Eval_all n)

theorem r07_Eval_meets {a0 : r04_Expr} {a1 : (List Int)} {r : (Int × Int)} (h : r07_Eval a0 a1 = some r) : MeetsV Try.prog GG 9 [.agg [.pv (.int .i64 a0.Kind), .pv (.int .i64 a0.Num), .pv (.int .i64 a0.Var), .pv (.sl (List.map e_r04_Expr a0.Kids))], .c (.pv (.sl (List.map e_i64 a1)))] [.c (.pv (.int .i64 r.1)), .c (.pv (.int .i64 r.2))] := by
  obtain ⟨n, hn⟩ := unfE h
  exact (r07_Eval_all n) _ _ _ hn

theorem zone_at_meets {a0 : (List Int)} {a1 : Int} {r : Int} (h : zone_at a0 a1 = some r) : MeetsV Try.prog GG 49 [.c (.pv (.sl (List.map e_i64 a0))), .c (.pv (.int .i64 a1))] [.c (.pv (.int .i64 r))] := by
  refine MeetsS.toV (meetsW_of (st0 := []) (N := 12) r_zone_at o_zone_at r Try.func49 rfl rfl rfl (by dsimp only [argEnv]) rfl ?_) rfl
  unfold zone_at at h
  refine seq_ ?_
  refine region_ ?_
  refine R tbok 1 [4, 0, 1] [(4, [.c (.pv (.int .i64 0))]), (0, [.c (.pv (.sl (List.map e_i64 a0)))]), (1, [.c (.pv (.int .i64 a1))])] (by kernel_rfl) ?_
  refine ops_nil ?_
  refine then_ ?_
  refine seq_ ?_
  refine seq_ ?_
  refine region_ ?_
  refine R tbok 2 [6, 4, 0, 1] [(6, [.c (.pv (.bool (a1 == 0)))]), (4, [.c (.pv (.int .i64 0))]), (0, [.c (.pv (.sl (List.map e_i64 a0)))]), (1, [.c (.pv (.int .i64 a1))])] (by kernel_rfl) ?_
  refine ops_nil ?_
  refine then_ ?_
  refine cond_ (b := (a1 == 0)) rfl (fun k1 => ?_) (fun k1 => ?_)
  · have h := iteT h k1
    refine seq_ ?_
    refine region_ ?_
    refine R tbok 1 [4, 0, 1] [(4, [.c (.pv (.int .i64 0))]), (0, [.c (.pv (.sl (List.map e_i64 a0)))]), (1, [.c (.pv (.int .i64 a1))])] (by kernel_rfl) ?_
    refine ops_nil ?_
    refine then_ ?_
    refine ret_ ?_
    obtain rfl := retE h
    refine tR (rwr (rw_ (.tmp rfl .nil) ?_))
    exact wkE (by kernel_rfl) (by kernel_rfl)
  · have h := iteF h k1
    refine skip_ ?_
    refine then_ ?_
    refine seq_ ?_
    refine region_ ?_
    refine R tbok 3 [9, 7, 4] [(9, [.c (.pv (.int .i64 (IntKind.i64.wrap (a1 - 1))))]), (7, [.c (.pv (.sl (List.map e_i64 a0)))]), (4, [.c (.pv (.int .i64 0))])] (by kernel_rfl) ?_
    obtain ⟨v1, k2, h⟩ := bindE h
    refine L rfl rfl (ia_sl (e := e_i64) (y := v1) rfl u33 ty3 rfl rfl k2 rfl) rfl ?_
    refine R tbok 2 [4] [(4, [.c (.pv (.int .i64 v1))])] (by kernel_rfl) ?_
    refine ops_nil ?_
    refine then_ ?_
    refine ret_ ?_
    obtain rfl := retE h
    refine rwr (rw_ (.tmp rfl .nil) ?_)
    exact wkE (by kernel_rfl) (by kernel_rfl)

theorem zone_Has_meets {a0 : zone_Zone} {a1 : (List Int)} {r : Bool} (h : zone_Has a0 a1 = some r) : MeetsV Try.prog GG 28 [.agg (bs (e_zone_Zone a0)), .c (.pv (.sl (List.map e_i64 a1)))] [.c (.pv (.bool r))] := by
  refine MeetsS.toV (meetsW_of (st0 := []) (N := 66) r_zone_Has o_zone_Has r Try.func28 rfl rfl rfl (by dsimp only [argEnv]) rfl ?_) rfl
  unfold zone_Has at h
  refine seq_ ?_
  refine region_ ?_
  refine B rfl rfl (bir_box rfl rfl rfl) rfl rfl .z ?_
  refine R tbok 1 [4, 2, 1] [(4, [.c (.pv (.bool false))]), (2, [.c (.box 0 0)]), (1, [.c (.pv (.sl (List.map e_i64 a1)))])] (by kernel_rfl) ?_
  refine ops_nil ?_
  refine then_ ?_
  refine seq_ ?_
  refine seq_ ?_
  refine jn_ (fun (j1 : Bool) => (⟨66, 0, [(1, [.c (.pv (.sl (List.map e_i64 a1)))]), (2, [.c (.box 0 0)]), (4, [.c (.pv (.bool false))]), (23, [.c (.pv (.bool j1))])], [some (.box true 44 (bs (e_zone_Zone a0)))]⟩ : Sx)) h wT (fun o h => ?_) (fun j1 h => ?_)
  · refine region_ ?_
    refine R tbok 3 [11, 4, 2, 1] [(11, [.c (.pv (.bool a0.None))]), (4, [.c (.pv (.bool false))]), (2, [.c (.box 0 0)]), (1, [.c (.pv (.sl (List.map e_i64 a1)))])] (by kernel_rfl) ?_
    refine (tf a0.None).elim (fun k1 => ?_) (fun k1 => ?_)
    · have h := iteT h k1
      refine Ls0 rfl rfl rfl k1 rfl rfl ?_
      refine Ls0 rfl rfl rfl k1 rfl rfl ?_
      refine Ls0 rfl rfl rfl k1 rfl rfl ?_
      refine Ls0 rfl rfl rfl k1 rfl rfl ?_
      refine L rfl rfl (lt_pickT rfl rfl k1 rfl) rfl ?_
      refine R tbok 1 [17, 4, 2, 1] [(17, [.c (.pv (.bool true))]), (4, [.c (.pv (.bool false))]), (2, [.c (.box 0 0)]), (1, [.c (.pv (.sl (List.map e_i64 a1)))])] (by kernel_rfl) ?_
      refine Ls0 rfl rfl rfl rfl rfl rfl ?_
      refine Ls0 rfl rfl rfl rfl rfl rfl ?_
      refine Ls0 rfl rfl rfl rfl rfl rfl ?_
      refine Ls0 rfl rfl rfl rfl rfl rfl ?_
      refine Ls0 rfl rfl rfl rfl rfl rfl ?_
      refine L rfl rfl (lt_pickT rfl rfl rfl rfl) rfl ?_
      refine ops_nil ?_
      obtain rfl := retE h
      refine mN ?_
      refine w_sub (env' := [(1, [.c (.pv (.sl (List.map e_i64 a1)))]), (2, [.c (.box 0 0)]), (4, [.c (.pv (.bool false))]), (23, [.c (.pv (.bool true))])]) (sub_cons rfl (sub_cons rfl (sub_cons rfl (sub_cons rfl sub_nil)))) ?_
      exact wkE (by kernel_rfl) (by kernel_rfl)
    · have h := iteF h k1
      refine Lg rfl rfl rfl k1 rfl (lt_fa_box rfl f44_0 ty3 (by decide) rfl) rfl ?_
      refine Lg rfl rfl rfl k1 rfl (lt_load_box rfl ty3 rfl rfl rfl) rfl ?_
      obtain ⟨v1, k2, h⟩ := bindE h
      refine Hg rfl rfl rfl k1 rfl rfl (op_fl rfl rfl (fl_call rfl Try.call48 rfl (by kernel_rfl) (by kernel_rfl) (zone_count_meets k2)) ?_)
      refine Lg rfl rfl rfl k1 rfl (lt_not rfl rfl) rfl ?_
      refine L rfl rfl (lt_pickF rfl rfl k1 rfl) rfl ?_
      refine R tbok 1 [17, 4, 2, 1] [(17, [.c (.pv (.bool (!v1)))]), (4, [.c (.pv (.bool false))]), (2, [.c (.box 0 0)]), (1, [.c (.pv (.sl (List.map e_i64 a1)))])] (by kernel_rfl) ?_
      refine (tf (!v1)).elim (fun k3 => ?_) (fun k3 => ?_)
      · have h := iteT h k3
        refine Ls0 rfl rfl rfl k3 rfl rfl ?_
        refine Ls0 rfl rfl rfl k3 rfl rfl ?_
        refine Ls0 rfl rfl rfl k3 rfl rfl ?_
        refine Ls0 rfl rfl rfl k3 rfl rfl ?_
        refine Ls0 rfl rfl rfl k3 rfl rfl ?_
        refine L rfl rfl (lt_pickT rfl rfl k3 rfl) rfl ?_
        refine ops_nil ?_
        obtain rfl := retE h
        refine mN ?_
        refine w_sub (env' := [(1, [.c (.pv (.sl (List.map e_i64 a1)))]), (2, [.c (.box 0 0)]), (4, [.c (.pv (.bool false))]), (23, [.c (.pv (.bool true))])]) (sub_cons rfl (sub_cons rfl (sub_cons rfl (sub_cons rfl sub_nil)))) ?_
        exact wkE (by kernel_rfl) (by kernel_rfl)
      · have h := iteF h k3
        refine Lg rfl rfl rfl k3 rfl (lt_move rfl rfl) rfl ?_
        refine Lg rfl rfl rfl k3 rfl (len_sl (e := e_i64) rfl u33 rfl) rfl ?_
        refine Lg rfl rfl rfl k3 rfl (lt_fa_box rfl f44_0 ty3 (by decide) rfl) rfl ?_
        refine Lg rfl rfl rfl k3 rfl (lt_load_box rfl ty3 rfl rfl rfl) rfl ?_
        refine Lg rfl rfl rfl k3 rfl (lt_int rfl rfl rfl rfl) rfl ?_
        refine L rfl rfl (lt_pickF rfl rfl k3 rfl) rfl ?_
        refine ops_nil ?_
        obtain rfl := retE h
        refine mN ?_
        refine w_sub (env' := [(1, [.c (.pv (.sl (List.map e_i64 a1)))]), (2, [.c (.box 0 0)]), (4, [.c (.pv (.bool false))]), (23, [.c (.pv (.bool ((a1.length : Int) != a0.N)))])]) (sub_cons rfl (sub_cons rfl (sub_cons rfl (sub_cons rfl sub_nil)))) ?_
        exact wkE (by kernel_rfl) (by kernel_rfl)
  · refine then_ ?_
    refine cond_ (b := j1) rfl (fun k4 => ?_) (fun k4 => ?_)
    · have h := iteT h k4
      refine seq_ ?_
      refine region_ ?_
      refine R tbok 1 [4, 1, 2] [(4, [.c (.pv (.bool false))]), (1, [.c (.pv (.sl (List.map e_i64 a1)))]), (2, [.c (.box 0 0)])] (by kernel_rfl) ?_
      refine ops_nil ?_
      refine then_ ?_
      refine ret_ ?_
      obtain rfl := retE h
      refine tR (rwr (rw_ (.tmp rfl .nil) ?_))
      refine w_none 0 .z ?_
      refine w_cut 0 rfl rfl rfl rfl ?_
      exact wkE (by kernel_rfl) (by kernel_rfl)
    · have h := iteF h k4
      refine skip_ ?_
      refine then_ ?_
      refine seq_ ?_
      refine seq_ ?_
      refine region_ ?_
      refine R tbok 1 [5, 1, 2, 4] [(5, [.c (.pv (.int .i64 0))]), (1, [.c (.pv (.sl (List.map e_i64 a1)))]), (2, [.c (.box 0 0)]), (4, [.c (.pv (.bool false))])] (by kernel_rfl) ?_
      refine ops_nil ?_
      refine then_ ?_
      refine lp_ (Qr := RW Try.prog GG Try.f28 0 r_zone_Has o_zone_Has) (zone_Has_l2 a0 a1) (fun (x2 : Int) => (⟨66, 0, [(1, [.c (.pv (.sl (List.map e_i64 a1)))]), (2, [.c (.box 0 0)]), (5, [.c (.pv (.int .i64 x2))])], [some (.box true 44 (bs (e_zone_Zone a0)))]⟩ : Sx)) (fun (j2 : Unit) => (⟨66, 0, [], []⟩ : Sx)) 0 RW.only h wT ?_ (fun x2 o h => ?_) (fun r h s' hs => ?_) (fun j2 h => ?_)
      · refine w_sub (env' := [(1, [.c (.pv (.sl (List.map e_i64 a1)))]), (2, [.c (.box 0 0)]), (5, [.c (.pv (.int .i64 0))])]) (sub_cons rfl (sub_cons rfl (sub_cons rfl sub_nil))) ?_
        exact wkE (by kernel_rfl) (by kernel_rfl)
      · unfold zone_Has_l2 at h
        refine seq_ ?_
        refine seq_ ?_
        refine region_ ?_
        refine R tbok 4 [27, 1, 2, 5] [(27, [.c (.pv (.bool (decide (x2 ≤ a0.N))))]), (1, [.c (.pv (.sl (List.map e_i64 a1)))]), (2, [.c (.box 0 0)]), (5, [.c (.pv (.int .i64 x2))])] (by kernel_rfl) ?_
        refine ops_nil ?_
        refine then_ ?_
        refine cond_ (b := (decide (x2 ≤ a0.N))) rfl (fun k5 => ?_) (fun k5 => ?_)
        · have h := iteT h k5
          refine skip_ ?_
          refine then_ ?_
          refine seq_ ?_
          refine block_ ?_
          refine seq_ ?_
          refine region_ ?_
          refine R tbok 2 [31, 30, 1, 2, 5] [(31, [.c (.pv (.int .i64 x2))]), (30, [.c (.pv (.sl (List.map e_i64 a1)))]), (1, [.c (.pv (.sl (List.map e_i64 a1)))]), (2, [.c (.box 0 0)]), (5, [.c (.pv (.int .i64 x2))])] (by kernel_rfl) ?_
          obtain ⟨v2, k6, h⟩ := bindE h
          refine C rfl rfl (fl_call rfl Try.call49 rfl (by kernel_rfl) (by kernel_rfl) (zone_at_meets k6)) rfl ?_
          refine R tbok 1 [6, 1, 2, 5] [(6, [.c (.pv (.int .i64 v2))]), (1, [.c (.pv (.sl (List.map e_i64 a1)))]), (2, [.c (.box 0 0)]), (5, [.c (.pv (.int .i64 x2))])] (by kernel_rfl) ?_
          refine ops_nil ?_
          refine then_ ?_
          refine seq_ ?_
          refine seq_ ?_
          refine jn_ (fun (j3 : Bool) => (⟨66, 0, [(1, [.c (.pv (.sl (List.map e_i64 a1)))]), (2, [.c (.box 0 0)]), (5, [.c (.pv (.int .i64 x2))]), (6, [.c (.pv (.int .i64 v2))]), (38, [.c (.pv (.bool j3))])], [some (.box true 44 (bs (e_zone_Zone a0)))]⟩ : Sx)) h wT (fun o h => ?_) (fun j3 h => ?_)
          · refine region_ ?_
            refine R tbok 3 [35, 6, 1, 2, 5] [(35, [.c (.pv (.bool (decide (v2 < (-2147483648)))))]), (6, [.c (.pv (.int .i64 v2))]), (1, [.c (.pv (.sl (List.map e_i64 a1)))]), (2, [.c (.box 0 0)]), (5, [.c (.pv (.int .i64 x2))])] (by kernel_rfl) ?_
            refine (tf (decide (v2 < (-2147483648)))).elim (fun k7 => ?_) (fun k7 => ?_)
            · have h := iteT h k7
              refine Ls0 rfl rfl rfl k7 rfl rfl ?_
              refine Ls0 rfl rfl rfl k7 rfl rfl ?_
              refine L rfl rfl (lt_pickT rfl rfl k7 rfl) rfl ?_
              refine ops_nil ?_
              obtain rfl := retE h
              refine mN ?_
              refine w_sub (env' := [(1, [.c (.pv (.sl (List.map e_i64 a1)))]), (2, [.c (.box 0 0)]), (5, [.c (.pv (.int .i64 x2))]), (6, [.c (.pv (.int .i64 v2))]), (38, [.c (.pv (.bool true))])]) (sub_cons rfl (sub_cons rfl (sub_cons rfl (sub_cons rfl (sub_cons rfl sub_nil))))) ?_
              exact wkE (by kernel_rfl) (by kernel_rfl)
            · have h := iteF h k7
              refine Lg rfl rfl rfl k7 rfl (lt_move rfl rfl) rfl ?_
              refine Lg rfl rfl rfl k7 rfl (lt_int rfl rfl rfl rfl) rfl ?_
              refine L rfl rfl (lt_pickF rfl rfl k7 rfl) rfl ?_
              refine ops_nil ?_
              obtain rfl := retE h
              refine mN ?_
              refine w_sub (env' := [(1, [.c (.pv (.sl (List.map e_i64 a1)))]), (2, [.c (.box 0 0)]), (5, [.c (.pv (.int .i64 x2))]), (6, [.c (.pv (.int .i64 v2))]), (38, [.c (.pv (.bool (decide (v2 > 2147483647))))])]) (sub_cons rfl (sub_cons rfl (sub_cons rfl (sub_cons rfl (sub_cons rfl sub_nil))))) ?_
              exact wkE (by kernel_rfl) (by kernel_rfl)
          · refine then_ ?_
            refine cond_ (b := j3) rfl (fun k8 => ?_) (fun k8 => ?_)
            · have h := iteT h k8
              refine seq_ ?_
              refine region_ ?_
              refine R tbok 1 [4, 1, 2, 5, 6] [(4, [.c (.pv (.bool false))]), (1, [.c (.pv (.sl (List.map e_i64 a1)))]), (2, [.c (.box 0 0)]), (5, [.c (.pv (.int .i64 x2))]), (6, [.c (.pv (.int .i64 v2))])] (by kernel_rfl) ?_
              refine ops_nil ?_
              refine then_ ?_
              refine ret_ ?_
              obtain rfl := retE h
              refine tR (bR (tR (lR (rw_ (.tmp rfl .nil) ?_))))
              refine w_none 0 .z ?_
              refine w_cut 0 rfl rfl rfl rfl ?_
              exact wkE (by kernel_rfl) (by kernel_rfl)
            · have h := iteF h k8
              refine skip_ ?_
              refine then_ ?_
              refine seq_ ?_
              refine region_ ?_
              refine R tbok 1 [7, 1, 2, 5, 6] [(7, [.c (.pv (.int .i64 0))]), (1, [.c (.pv (.sl (List.map e_i64 a1)))]), (2, [.c (.box 0 0)]), (5, [.c (.pv (.int .i64 x2))]), (6, [.c (.pv (.int .i64 v2))])] (by kernel_rfl) ?_
              refine ops_nil ?_
              refine then_ ?_
              refine lp_ (Qr := RW Try.prog GG Try.f28 0 r_zone_Has o_zone_Has) (zone_Has_l4 a0 a1 v2 x2) (fun (x4 : Int) => (⟨66, 0, [(1, [.c (.pv (.sl (List.map e_i64 a1)))]), (2, [.c (.box 0 0)]), (5, [.c (.pv (.int .i64 x2))]), (6, [.c (.pv (.int .i64 v2))]), (7, [.c (.pv (.int .i64 x4))])], [some (.box true 44 (bs (e_zone_Zone a0)))]⟩ : Sx)) (fun (j4 : Unit) => (⟨66, 0, [(1, [.c (.pv (.sl (List.map e_i64 a1)))]), (2, [.c (.box 0 0)]), (5, [.c (.pv (.int .i64 x2))])], [some (.box true 44 (bs (e_zone_Zone a0)))]⟩ : Sx)) 0 RW.only h (wB wT) ?_ (fun x4 o h => ?_) (fun r h s' hs => ?_) (fun j4 h => ?_)
              · refine w_sub (env' := [(1, [.c (.pv (.sl (List.map e_i64 a1)))]), (2, [.c (.box 0 0)]), (5, [.c (.pv (.int .i64 x2))]), (6, [.c (.pv (.int .i64 v2))]), (7, [.c (.pv (.int .i64 0))])]) (sub_cons rfl (sub_cons rfl (sub_cons rfl (sub_cons rfl (sub_cons rfl sub_nil))))) ?_
                exact wkE (by kernel_rfl) (by kernel_rfl)
              · unfold zone_Has_l4 at h
                refine seq_ ?_
                refine seq_ ?_
                refine region_ ?_
                refine R tbok 4 [42, 1, 2, 5, 6, 7] [(42, [.c (.pv (.bool (decide (x4 ≤ a0.N))))]), (1, [.c (.pv (.sl (List.map e_i64 a1)))]), (2, [.c (.box 0 0)]), (5, [.c (.pv (.int .i64 x2))]), (6, [.c (.pv (.int .i64 v2))]), (7, [.c (.pv (.int .i64 x4))])] (by kernel_rfl) ?_
                refine ops_nil ?_
                refine then_ ?_
                refine cond_ (b := (decide (x4 ≤ a0.N))) rfl (fun k9 => ?_) (fun k9 => ?_)
                · have h := iteT h k9
                  refine skip_ ?_
                  refine then_ ?_
                  refine seq_ ?_
                  refine block_ ?_
                  refine seq_ ?_
                  refine region_ ?_
                  refine R tbok 2 [46, 45, 1, 2, 5, 6, 7] [(46, [.c (.pv (.int .i64 x4))]), (45, [.c (.pv (.sl (List.map e_i64 a1)))]), (1, [.c (.pv (.sl (List.map e_i64 a1)))]), (2, [.c (.box 0 0)]), (5, [.c (.pv (.int .i64 x2))]), (6, [.c (.pv (.int .i64 v2))]), (7, [.c (.pv (.int .i64 x4))])] (by kernel_rfl) ?_
                  obtain ⟨v3, k10, h⟩ := bindE h
                  refine C rfl rfl (fl_call rfl Try.call49 rfl (by kernel_rfl) (by kernel_rfl) (zone_at_meets k10)) rfl ?_
                  refine R tbok 1 [8, 1, 2, 5, 6, 7] [(8, [.c (.pv (.int .i64 v3))]), (1, [.c (.pv (.sl (List.map e_i64 a1)))]), (2, [.c (.box 0 0)]), (5, [.c (.pv (.int .i64 x2))]), (6, [.c (.pv (.int .i64 v2))]), (7, [.c (.pv (.int .i64 x4))])] (by kernel_rfl) ?_
                  refine ops_nil ?_
                  refine then_ ?_
                  refine seq_ ?_
                  refine jn_ (fun (j5 : Bool) => (⟨66, 0, [(1, [.c (.pv (.sl (List.map e_i64 a1)))]), (2, [.c (.box 0 0)]), (5, [.c (.pv (.int .i64 x2))]), (6, [.c (.pv (.int .i64 v2))]), (7, [.c (.pv (.int .i64 x4))]), (65, [.c (.pv (.bool j5))])], [some (.box true 44 (bs (e_zone_Zone a0)))]⟩ : Sx)) h wT (fun o h => ?_) (fun j5 h => ?_)
                  · refine region_ ?_
                    refine R tbok 3 [50, 8, 1, 2, 5, 6, 7] [(50, [.c (.pv (.bool (decide (v3 < (-2147483648)))))]), (8, [.c (.pv (.int .i64 v3))]), (1, [.c (.pv (.sl (List.map e_i64 a1)))]), (2, [.c (.box 0 0)]), (5, [.c (.pv (.int .i64 x2))]), (6, [.c (.pv (.int .i64 v2))]), (7, [.c (.pv (.int .i64 x4))])] (by kernel_rfl) ?_
                    refine (tf (decide (v3 < (-2147483648)))).elim (fun k11 => ?_) (fun k11 => ?_)
                    · have h := iteT h k11
                      refine Ls0 rfl rfl rfl k11 rfl rfl ?_
                      refine Ls0 rfl rfl rfl k11 rfl rfl ?_
                      refine L rfl rfl (lt_pickT rfl rfl k11 rfl) rfl ?_
                      refine R tbok 1 [54, 8, 1, 2, 5, 6, 7] [(54, [.c (.pv (.bool true))]), (8, [.c (.pv (.int .i64 v3))]), (1, [.c (.pv (.sl (List.map e_i64 a1)))]), (2, [.c (.box 0 0)]), (5, [.c (.pv (.int .i64 x2))]), (6, [.c (.pv (.int .i64 v2))]), (7, [.c (.pv (.int .i64 x4))])] (by kernel_rfl) ?_
                      refine Ls0 rfl rfl rfl rfl rfl rfl ?_
                      refine Ls0 rfl rfl rfl rfl rfl rfl ?_
                      refine Ls0 rfl rfl rfl rfl rfl rfl ?_
                      refine Ls0 rfl rfl rfl rfl rfl rfl ?_
                      refine Ls0 rfl rfl rfl rfl rfl rfl ?_
                      refine Ls0 rfl rfl rfl rfl rfl rfl ?_
                      refine Ls0 rfl rfl rfl rfl rfl rfl ?_
                      refine Ls0 rfl rfl rfl rfl rfl rfl ?_
                      refine Ls0 rfl rfl rfl rfl rfl rfl ?_
                      refine Ls0 rfl rfl rfl rfl rfl rfl ?_
                      refine L rfl rfl (lt_pickT rfl rfl rfl rfl) rfl ?_
                      refine ops_nil ?_
                      obtain rfl := retE h
                      refine mN ?_
                      refine w_sub (env' := [(1, [.c (.pv (.sl (List.map e_i64 a1)))]), (2, [.c (.box 0 0)]), (5, [.c (.pv (.int .i64 x2))]), (6, [.c (.pv (.int .i64 v2))]), (7, [.c (.pv (.int .i64 x4))]), (65, [.c (.pv (.bool true))])]) (sub_cons rfl (sub_cons rfl (sub_cons rfl (sub_cons rfl (sub_cons rfl (sub_cons rfl sub_nil)))))) ?_
                      exact wkE (by kernel_rfl) (by kernel_rfl)
                    · have h := iteF h k11
                      refine Lg rfl rfl rfl k11 rfl (lt_move rfl rfl) rfl ?_
                      refine Lg rfl rfl rfl k11 rfl (lt_int rfl rfl rfl rfl) rfl ?_
                      refine L rfl rfl (lt_pickF rfl rfl k11 rfl) rfl ?_
                      refine R tbok 1 [54, 8, 1, 2, 5, 6, 7] [(54, [.c (.pv (.bool (decide (v3 > 2147483647))))]), (8, [.c (.pv (.int .i64 v3))]), (1, [.c (.pv (.sl (List.map e_i64 a1)))]), (2, [.c (.box 0 0)]), (5, [.c (.pv (.int .i64 x2))]), (6, [.c (.pv (.int .i64 v2))]), (7, [.c (.pv (.int .i64 x4))])] (by kernel_rfl) ?_
                      refine (tf (decide (v3 > 2147483647))).elim (fun k12 => ?_) (fun k12 => ?_)
                      · have h := iteT h k12
                        refine Ls0 rfl rfl rfl k12 rfl rfl ?_
                        refine Ls0 rfl rfl rfl k12 rfl rfl ?_
                        refine Ls0 rfl rfl rfl k12 rfl rfl ?_
                        refine Ls0 rfl rfl rfl k12 rfl rfl ?_
                        refine Ls0 rfl rfl rfl k12 rfl rfl ?_
                        refine Ls0 rfl rfl rfl k12 rfl rfl ?_
                        refine Ls0 rfl rfl rfl k12 rfl rfl ?_
                        refine Ls0 rfl rfl rfl k12 rfl rfl ?_
                        refine Ls0 rfl rfl rfl k12 rfl rfl ?_
                        refine Ls0 rfl rfl rfl k12 rfl rfl ?_
                        refine L rfl rfl (lt_pickT rfl rfl k12 rfl) rfl ?_
                        refine ops_nil ?_
                        obtain rfl := retE h
                        refine mN ?_
                        refine w_sub (env' := [(1, [.c (.pv (.sl (List.map e_i64 a1)))]), (2, [.c (.box 0 0)]), (5, [.c (.pv (.int .i64 x2))]), (6, [.c (.pv (.int .i64 v2))]), (7, [.c (.pv (.int .i64 x4))]), (65, [.c (.pv (.bool true))])]) (sub_cons rfl (sub_cons rfl (sub_cons rfl (sub_cons rfl (sub_cons rfl (sub_cons rfl sub_nil)))))) ?_
                        exact wkE (by kernel_rfl) (by kernel_rfl)
                      · have h := iteF h k12
                        refine Lg rfl rfl rfl k12 rfl (lt_move rfl rfl) rfl ?_
                        refine Lg rfl rfl rfl k12 rfl (lt_move rfl rfl) rfl ?_
                        refine Lg rfl rfl rfl k12 rfl (lt_int rfl rfl rfl rfl) rfl ?_
                        refine Lg rfl rfl rfl k12 rfl (lt_move rfl rfl) rfl ?_
                        refine Lg rfl rfl rfl k12 rfl (lt_move rfl rfl) rfl ?_
                        refine Lg rfl rfl rfl k12 rfl (lt_fa_box rfl f44_2 ty42 (by decide) rfl) rfl ?_
                        obtain ⟨v4, k13, h⟩ := bindE h
                        refine Lg rfl rfl rfl k12 rfl (ia_boxD rfl u42 ty41 rfl rfl k13) rfl ?_
                        obtain ⟨v5, k14, h⟩ := bindE h
                        refine Lg rfl rfl rfl k12 rfl (ia_boxD rfl u41 ty3 rfl rfl k14) rfl ?_
                        refine Lg rfl rfl rfl k12 rfl (lt_load_box rfl ty3 rfl rfl (at2 (e := (PV.int .i64)) (D2 := a0.D) (pre := [.int .i64 a0.N, .bool a0.None]) (post := []) (n1 := 7) (n2 := 7) (by kernel_rfl) (inA_lt k13) (inA_lt k14))) rfl ?_
                        refine Lg rfl rfl rfl k12 rfl (lt_int rfl rfl rfl rfl) rfl ?_
                        refine L rfl rfl (lt_pickF rfl rfl k12 rfl) rfl ?_
                        refine ops_nil ?_
                        obtain rfl := retE h
                        refine mN ?_
                        refine w_sub (env' := [(1, [.c (.pv (.sl (List.map e_i64 a1)))]), (2, [.c (.box 0 0)]), (5, [.c (.pv (.int .i64 x2))]), (6, [.c (.pv (.int .i64 v2))]), (7, [.c (.pv (.int .i64 x4))]), (65, [.c (.pv (.bool (decide ((IntKind.i64.wrap (v2 - v3)) > ((a0.D v4) v5)))))])]) (sub_cons rfl (sub_cons rfl (sub_cons rfl (sub_cons rfl (sub_cons rfl (sub_cons rfl sub_nil)))))) ?_
                        exact wkE (by kernel_rfl) (by kernel_rfl)
                  · refine then_ ?_
                    refine cond_ (b := j5) rfl (fun k15 => ?_) (fun k15 => ?_)
                    · have h := iteT h k15
                      refine seq_ ?_
                      refine region_ ?_
                      refine R tbok 1 [4, 1, 2, 5, 6, 7] [(4, [.c (.pv (.bool false))]), (1, [.c (.pv (.sl (List.map e_i64 a1)))]), (2, [.c (.box 0 0)]), (5, [.c (.pv (.int .i64 x2))]), (6, [.c (.pv (.int .i64 v2))]), (7, [.c (.pv (.int .i64 x4))])] (by kernel_rfl) ?_
                      refine ops_nil ?_
                      refine then_ ?_
                      refine ret_ ?_
                      obtain rfl := retE h
                      refine bR (tR (lR (rw_ (.tmp rfl .nil) ?_)))
                      refine w_none 0 .z ?_
                      refine w_cut 0 rfl rfl rfl rfl ?_
                      exact wkE (by kernel_rfl) (by kernel_rfl)
                    · have h := iteF h k15
                      refine skip_ ?_
                      refine bN ?_
                      refine then_ ?_
                      refine region_ ?_
                      refine R tbok 3 [7, 1, 2, 5, 6] [(7, [.c (.pv (.int .i64 (IntKind.i64.wrap (x4 + 1))))]), (1, [.c (.pv (.sl (List.map e_i64 a1)))]), (2, [.c (.box 0 0)]), (5, [.c (.pv (.int .i64 x2))]), (6, [.c (.pv (.int .i64 v2))])] (by kernel_rfl) ?_
                      refine ops_nil ?_
                      obtain rfl := retE h
                      refine lN ?_
                      refine w_sub (env' := [(1, [.c (.pv (.sl (List.map e_i64 a1)))]), (2, [.c (.box 0 0)]), (5, [.c (.pv (.int .i64 x2))]), (6, [.c (.pv (.int .i64 v2))]), (7, [.c (.pv (.int .i64 (IntKind.i64.wrap (x4 + 1))))])]) (sub_cons rfl (sub_cons rfl (sub_cons rfl (sub_cons rfl (sub_cons rfl sub_nil))))) ?_
                      exact wkE (by kernel_rfl) (by kernel_rfl)
                · have h := iteF h k9
                  refine exit_ ?_
                  refine tX ?_
                  obtain rfl := retE h
                  refine lX ?_
                  refine w_sub (env' := [(1, [.c (.pv (.sl (List.map e_i64 a1)))]), (2, [.c (.box 0 0)]), (5, [.c (.pv (.int .i64 x2))])]) (sub_cons rfl (sub_cons rfl (sub_cons rfl sub_nil))) ?_
                  exact wkE (by kernel_rfl) (by kernel_rfl)
              · have h := elimL h
                obtain rfl := retE h
                exact (bR (tR (lR hs)))
              · have h := elimR h
                refine bN ?_
                refine then_ ?_
                refine region_ ?_
                refine R tbok 3 [5, 1, 2] [(5, [.c (.pv (.int .i64 (IntKind.i64.wrap (x2 + 1))))]), (1, [.c (.pv (.sl (List.map e_i64 a1)))]), (2, [.c (.box 0 0)])] (by kernel_rfl) ?_
                refine ops_nil ?_
                obtain rfl := retE h
                refine lN ?_
                refine w_sub (env' := [(1, [.c (.pv (.sl (List.map e_i64 a1)))]), (2, [.c (.box 0 0)]), (5, [.c (.pv (.int .i64 (IntKind.i64.wrap (x2 + 1))))])]) (sub_cons rfl (sub_cons rfl (sub_cons rfl sub_nil))) ?_
                exact wkE (by kernel_rfl) (by kernel_rfl)
        · have h := iteF h k5
          refine exit_ ?_
          refine tX ?_
          obtain rfl := retE h
          refine lX ?_
          refine w_sub (env' := []) sub_nil ?_
          refine w_cut 0 rfl rfl rfl rfl ?_
          exact wkE (by kernel_rfl) (by kernel_rfl)
      · have h := elimL h
        obtain rfl := retE h
        exact (tR (rwr hs))
      · have h := elimR h
        refine then_ ?_
        refine seq_ ?_
        refine region_ ?_
        refine R tbok 1 [4] [(4, [.c (.pv (.bool true))])] (by kernel_rfl) ?_
        refine ops_nil ?_
        refine then_ ?_
        refine ret_ ?_
        obtain rfl := retE h
        refine rwr (rw_ (.tmp rfl .nil) ?_)
        exact wkE (by kernel_rfl) (by kernel_rfl)

theorem num_Has_meets {a0 : num_Num} {a1 : (List Int)} {r : Bool} (h : num_Has a0 a1 = some r) : MeetsV Try.prog GG 11 [.agg (bs (e_num_Num a0)), .c (.pv (.sl (List.map e_i64 a1)))] [.c (.pv (.bool r))] := by
  refine MeetsS.toV (meetsW_of (st0 := []) (N := 14) r_num_Has o_num_Has r Try.func11 rfl rfl rfl (by dsimp only [argEnv]) rfl ?_) rfl
  unfold num_Has at h
  refine seq_ ?_
  refine region_ ?_
  refine B rfl rfl (bir_box rfl rfl rfl) rfl rfl .z ?_
  refine R tbok 1 [4, 2, 1] [(4, [.c (.pv (.bool false))]), (2, [.c (.box 0 0)]), (1, [.c (.pv (.sl (List.map e_i64 a1)))])] (by kernel_rfl) ?_
  refine ops_nil ?_
  refine then_ ?_
  refine seq_ ?_
  refine jn_ (fun (j1 : Bool) => (⟨14, 0, [(4, [.c (.pv (.bool j1))])], []⟩ : Sx)) h wT (fun o h => ?_) (fun j1 h => ?_)
  · refine region_ ?_
    refine R tbok 4 [8, 4, 2, 1] [(8, [.c (.pv (.bool (!a0.None)))]), (4, [.c (.pv (.bool false))]), (2, [.c (.box 0 0)]), (1, [.c (.pv (.sl (List.map e_i64 a1)))])] (by kernel_rfl) ?_
    refine (tf (!a0.None)).elim (fun k1 => ?_) (fun k1 => ?_)
    · have h := iteT h k1
      refine Lg rfl rfl rfl k1 rfl (lt_fa_box rfl f46_2 ty44 (by decide) rfl) rfl ?_
      refine Lg rfl rfl rfl k1 rfl (lt_load_boxA (ys := (bs (e_zone_Zone a0.Z))) rfl ty44 rfl rfl (by kernel_rfl) (by kernel_rfl)) rfl ?_
      refine Lg rfl rfl rfl k1 rfl (lt_move rfl rfl) rfl ?_
      obtain ⟨v1, k2, h⟩ := bindE h
      refine Hg rfl rfl rfl k1 rfl rfl (op_fl rfl rfl (fl_call rfl Try.call28 rfl (by kernel_rfl) (by kernel_rfl) (zone_Has_meets k2)) ?_)
      refine L rfl rfl (lt_pickT rfl rfl k1 rfl) rfl ?_
      refine R tbok 1 [4] [(4, [.c (.pv (.bool v1))])] (by kernel_rfl) ?_
      refine ops_nil ?_
      obtain rfl := retE h
      refine mN ?_
      refine w_cut 0 rfl rfl rfl rfl ?_
      exact wkE (by kernel_rfl) (by kernel_rfl)
    · have h := iteF h k1
      refine Ls0 rfl rfl rfl k1 rfl rfl ?_
      refine Ls0 rfl rfl rfl k1 rfl rfl ?_
      refine Ls0 rfl rfl rfl k1 rfl rfl ?_
      refine Ls0 rfl rfl rfl k1 rfl rfl ?_
      refine L rfl rfl (lt_pickF rfl rfl k1 rfl) rfl ?_
      refine R tbok 1 [4] [(4, [.c (.pv (.bool false))])] (by kernel_rfl) ?_
      refine ops_nil ?_
      obtain rfl := retE h
      refine mN ?_
      refine w_cut 0 rfl rfl rfl rfl ?_
      exact wkE (by kernel_rfl) (by kernel_rfl)
  · refine then_ ?_
    refine ret_ ?_
    obtain rfl := retE h
    refine rwr (rw_ (.tmp rfl .nil) ?_)
    exact wkE (by kernel_rfl) (by kernel_rfl)

theorem l14_steps_meets {r : Bool} (h : l14_steps = some r) : MeetsV Try.prog GG 12 [] [.c (.pv (.bool r))] := by
  refine MeetsS.toV (meetsW_of (st0 := []) (N := 55) r_l14_steps o_l14_steps r Try.func12 rfl rfl rfl (by dsimp only [argEnv]) rfl ?_) rfl
  unfold l14_steps at h
  refine seq_ ?_
  refine region_ ?_
  refine R tbok 1 [0] [(0, [.c (.pv (.bool false))])] (by kernel_rfl) ?_
  refine ops_nil ?_
  refine then_ ?_
  refine seq_ ?_
  refine region_ ?_
  refine L rfl rfl (lt_build (cs := [.pv (.int .i64 1), .pv (.int .i64 3), .pv (.int .i64 0), .emp]) rfl st25 rfl (by kernel_rfl)) rfl ?_
  refine L rfl rfl (lt_build (cs := [.pv (.int .i64 0), .pv (.int .i64 1), .pv (.int .i64 1), .pv (.int .i64 0), .pv (.int .i64 0), .pv (.int .i64 0), .pv (.int .i64 1), .pv (.int .i64 3), .pv (.int .i64 0), .emp, .pv (.int .i64 0), .pv (.int .i64 0), .pv (.int .i64 0), .pv (.int .i64 0), .emp, .pv (.int .i64 0), .pv (.int .i64 0), .pv (.int .i64 0), .emp]) rfl st31 rfl (by kernel_rfl)) rfl ?_
  refine C rfl rfl (fl_slice (cs := [.pv (.int .i64 0), .pv (.int .i64 1), .pv (.int .i64 1), .pv (.int .i64 0), .pv (.int .i64 0), .pv (.int .i64 0), .pv (.int .i64 1), .pv (.int .i64 3), .pv (.int .i64 0), .emp, .pv (.int .i64 0), .pv (.int .i64 0), .pv (.int .i64 0), .pv (.int .i64 0), .emp, .pv (.int .i64 0), .pv (.int .i64 0), .pv (.int .i64 0), .emp]) (pv := [.int .i64 0, .int .i64 1, .int .i64 1, .int .i64 0, .int .i64 0, .int .i64 0, .int .i64 1, .int .i64 3, .int .i64 0, .sl [], .int .i64 0, .int .i64 0, .int .i64 0, .int .i64 0, .sl [], .int .i64 0, .int .i64 0, .int .i64 0, .sl []]) (List.map e_flow_Edge [(flow_Edge.mk 0 1 1 0 0 0 (check_Expr.mk 1 3 0 []) (check_Cond.mk 0 (check_Expr.mk 0 0 0 []) (check_Expr.mk 0 0 0 [])))]) rfl sl32 rfl rfl (by kernel_rfl) (by kernel_rfl) (by kernel_rfl) rfl rfl) rfl ?_
  refine L rfl rfl (lt_build (cs := [.pv (.int .i64 2), .pv (.sl (List.map e_flow_Edge [(flow_Edge.mk 0 1 1 0 0 0 (check_Expr.mk 1 3 0 []) (check_Cond.mk 0 (check_Expr.mk 0 0 0 []) (check_Expr.mk 0 0 0 [])))])), .emp]) rfl st35 rfl (by kernel_rfl)) rfl ?_
  refine C rfl rfl (fl_slice (List.map e_flow_Graph [(flow_Graph.mk 2 [(flow_Edge.mk 0 1 1 0 0 0 (check_Expr.mk 1 3 0 []) (check_Cond.mk 0 (check_Expr.mk 0 0 0 []) (check_Expr.mk 0 0 0 [])))] [])]) rfl sl36 rfl rfl rfl rfl rfl rfl rfl) rfl ?_
  refine C rfl rfl (fl_slice (List.map e_i64 [1]) rfl sl33 rfl rfl rfl rfl rfl rfl rfl) rfl ?_
  refine L rfl rfl (lt_build (cs := [.emp, .pv (.sl (List.map e_flow_Graph [(flow_Graph.mk 2 [(flow_Edge.mk 0 1 1 0 0 0 (check_Expr.mk 1 3 0 []) (check_Cond.mk 0 (check_Expr.mk 0 0 0 []) (check_Expr.mk 0 0 0 [])))] [])])), .pv (.sl (List.map e_i64 [1]))]) rfl st39 rfl (by kernel_rfl)) rfl ?_
  refine B rfl rfl (bir_alloc rfl z39 rfl rfl) rfl rfl .z ?_
  refine S rfl rfl rfl ty39 (by decide) rfl rfl rfl rfl rfl (.all rfl) .z ?_
  refine ops_nil ?_
  refine then_ ?_
  refine seq_ ?_
  refine drawn_ mixed ?_
  refine dl (t := 13) 0 [.agg [.emp, .pv (.sl (List.map e_flow_Graph [(flow_Graph.mk 2 [(flow_Edge.mk 0 1 1 0 0 0 (check_Expr.mk 1 3 0 []) (check_Cond.mk 0 (check_Expr.mk 0 0 0 []) (check_Expr.mk 0 0 0 [])))] [])])), .pv (.sl (List.map e_i64 [1]))]] rfl ?_
  refine dl (t := 14) 1 [.agg [.emp, .pv (.sl (List.map e_flow_Graph [(flow_Graph.mk 2 [(flow_Edge.mk 0 1 1 0 0 0 (check_Expr.mk 1 3 0 []) (check_Cond.mk 0 (check_Expr.mk 0 0 0 []) (check_Expr.mk 0 0 0 [])))] [])])), .pv (.sl (List.map e_i64 [1])), .emp, .emp]] rfl ?_
  refine dl (t := 15) 2 [.agg [.emp, .pv (.sl (List.map e_flow_Graph [(flow_Graph.mk 2 [(flow_Edge.mk 0 1 1 0 0 0 (check_Expr.mk 1 3 0 []) (check_Cond.mk 0 (check_Expr.mk 0 0 0 []) (check_Expr.mk 0 0 0 [])))] [])])), .pv (.sl (List.map e_i64 [1]))]] rfl ?_
  obtain ⟨v2, k2, h⟩ := bindE h
  refine dl (t := 16) 3 [.agg (bs (e_trans_State v2))] rfl ?_
  obtain ⟨v4, k4, h⟩ := bindE h
  refine dl (t := 17) 4 [.agg (bs (e_trans_State v4.1)), .agg [.pv (.int .i64 v4.2.1.Chan), .pv (.int .i64 v4.2.1.Tag), .pv (.int .i64 v4.2.1.Vals.Lo), .pv (.int .i64 v4.2.1.Vals.Hi)], .c (.pv (.sl (List.map e_i64 v4.2.2)))] rfl ?_
  refine dl (t := 12) 5 [.agg (bs (e_trans_State v4.1)), .agg [.pv (.int .i64 v4.2.1.Chan), .pv (.int .i64 v4.2.1.Tag), .pv (.int .i64 v4.2.1.Vals.Lo), .pv (.int .i64 v4.2.1.Vals.Hi)], .c (.pv (.sl (List.map e_i64 v4.2.2)))] rfl ?_
  refine dl (t := 18) 6 [.agg (bs (e_trans_State v4.1))] rfl ?_
  refine dl (t := 19) 7 [.agg [.pv (.int .i64 v4.2.1.Chan), .pv (.int .i64 v4.2.1.Tag), .pv (.int .i64 v4.2.1.Vals.Lo), .pv (.int .i64 v4.2.1.Vals.Hi)]] rfl ?_
  refine dl (t := 20) 8 [.c (.pv (.sl (List.map e_i64 v4.2.2)))] rfl ?_
  refine db (t := 2) 9 1 [.c (.box 1 0)] ((.box true 49 ([.pv (.bool false), .emp, .pv (.int .i64 0), .pv (.bool false)] ++ (bs (e_T42 (arr (arr 0 []) [(arr 0 [0, 0, 0, 0, 0, 0, 0]), (arr 0 [0, 0, 0, 0, 0, 0, 0]), (arr 0 [0, 0, 0, 0, 0, 0, 0]), (arr 0 [0, 0, 0, 0, 0, 0, 0]), (arr 0 [0, 0, 0, 0, 0, 0, 0]), (arr 0 [0, 0, 0, 0, 0, 0, 0]), (arr 0 [0, 0, 0, 0, 0, 0, 0])])) ++ [.emp, .emp])))) rfl rfl (Push.eq (.s .z)) ?_
  refine db (t := 3) 10 2 [.c (.box 2 0)] ((.box true 55 [.pv (.int .i64 0), .pv (.int .i64 0), .pv (.int .i64 0), .pv (.int .i64 0)])) rfl rfl (Push.eq (.s (.s .z))) ?_
  refine d_store (wm [0, 1, 0, 4, 15, 31, 63, 63, 63, 0, 0, 1663, 3839, 8191]) 11 rfl (by kernel_rfl) (by kernel_rfl) (by kernel_rfl) (by kernel_rfl) (by kernel_rfl) (gi0 rfl) (owF (by kernel_rfl) (fo_b [2, 1] rfl rfl rfl (by kernel_rfl) (by kernel_rfl) (by kernel_rfl) (gi0 rfl) (bir_alloc rfl z55 rfl rfl) (by kernel_rfl) (by kernel_rfl)) (owF (by kernel_rfl) (fo_b [2, 1] rfl rfl rfl (by kernel_rfl) (by kernel_rfl) (by kernel_rfl) (gi0 rfl) (bir_alloc rfl z49 rfl rfl) (by kernel_rfl) (by kernel_rfl)) (oE tbok [2, 1] 4 (by kernel_rfl) (oL [2, 1] rfl (by kernel_rfl) (fl_call rfl Try.call8 rfl (by kernel_rfl) (by kernel_rfl) (trans_Step_meets k4)) (oL [2, 1] rfl (by kernel_rfl) (fl_call rfl Try.call6 rfl (by kernel_rfl) (by kernel_rfl) (trans_Start_meets k2)) (oE tbok [2, 1] 1 (by kernel_rfl) (oL [2, 1] rfl (by kernel_rfl) (fl_lt (lt_build (cs := [.emp, .pv (.sl (List.map e_flow_Graph [(flow_Graph.mk 2 [(flow_Edge.mk 0 1 1 0 0 0 (check_Expr.mk 1 3 0 []) (check_Cond.mk 0 (check_Expr.mk 0 0 0 []) (check_Expr.mk 0 0 0 [])))] [])])), .pv (.sl (List.map e_i64 [1])), .emp, .emp]) rfl st61 rfl (by kernel_rfl))) (oE tbok [2, 1] 1 (by kernel_rfl) trivial)))))))) rfl rfl ty49 rfl rfl rfl rfl rfl rfl (putE 55 (.all rfl) rfl (by decide)) (SetAt.eq (.s .z)) ?_
  refine d_store (wm [0, 1, 0, 4, 15, 31, 63, 63, 63, 0, 0, 1663, 3839, 8191]) 12 rfl (by kernel_rfl) (by kernel_rfl) (by kernel_rfl) (by kernel_rfl) (by kernel_rfl) (gi0 rfl) (oN 3 (by kernel_rfl) (oE tbok [2, 1] 2 (by kernel_rfl) (oN 7 (by kernel_rfl) trivial))) rfl rfl ty55 rfl rfl rfl rfl rfl rfl (putE 4 (.all rfl) rfl (by decide)) (SetAt.eq (.s (.s .z))) ?_
  refine dl (t := 4) 13 [.c (.pv (.sl (List.map e_i64 v4.2.2)))] rfl ?_
  refine d_endS (env2 := [(4, [.c (.pv (.sl (List.map e_i64 v4.2.2)))]), (3, [.c (.box 2 0)]), (2, [.c (.box 1 0)]), (1, [.c (.box 0 0)]), (0, [.c (.pv (.bool false))])]) (wm [0, 1, 0, 4, 15, 31, 63, 63, 63, 0, 0, 1663, 3839, 8191]) (by kernel_rfl) (by kernel_rfl) (by kernel_rfl) (oE tbok [] 1 (by kernel_rfl) (oN 4 (by kernel_rfl) (oE tbok [2, 1] 1 (by kernel_rfl) (oN 8 (by kernel_rfl) trivial)))) (sub_cons rfl (sub_cons rfl (sub_cons rfl (sub_cons rfl (sub_cons rfl sub_nil))))) wT ?_
  refine then_ ?_
  refine seq_ ?_
  refine jn_ (fun (j1 : Bool) => (⟨55, 0, [(0, [.c (.pv (.bool j1))])], []⟩ : Sx)) h wT (fun o h => ?_) (fun j1 h => ?_)
  · refine drawn_ mixed ?_
    refine dl (t := 21) 0 [.agg (bs (e_trans_State v4.1))] rfl ?_
    obtain ⟨v6, k6, h⟩ := bindE h
    refine dl (t := 22) 1 [.c (.pv (.bool v6))] rfl ?_
    refine dl (t := 23) 2 [.c (.pv (.bool (!v6)))] rfl ?_
    refine dl (t := 24) 3 [.c (.pv (.bool (!v6)))] rfl ?_
    refine (tf (!v6)).elim (fun k7 => ?_) (fun k7 => ?_)
    · have h := iteT h k7
      refine dl (t := 25) 4 [.c (.box 1 0)] rfl ?_
      refine dl (t := 26) 5 [.c (.box 1 1)] rfl ?_
      refine dl (t := 27) 6 [.c (.pv (.sl (List.map e_itv_Itv v4.1.N.I)))] rfl ?_
      refine dl (t := 28) 7 [.c (.pv (.int .i64 (v4.1.N.I.length : Int)))] rfl ?_
      refine dl (t := 29) 8 [.c (.pv (.bool ((v4.1.N.I.length : Int) == 1)))] rfl ?_
      refine dl (t := 30) 9 [.c (.pv (.bool ((v4.1.N.I.length : Int) == 1)))] rfl ?_
      refine dl (t := 31) 10 [.c (.pv (.bool ((v4.1.N.I.length : Int) == 1)))] rfl ?_
      refine (tf ((v4.1.N.I.length : Int) == 1)).elim (fun k8 => ?_) (fun k8 => ?_)
      · have h := iteT h k8
        refine dl (t := 32) 11 [.c (.box 1 0)] rfl ?_
        refine dl (t := 33) 12 [.c (.box 1 1)] rfl ?_
        refine dl (t := 34) 13 [.c (.pv (.sl (List.map e_itv_Itv v4.1.N.I)))] rfl ?_
        obtain ⟨v7, k9, h⟩ := bindE h
        refine dl (t := 35) 14 [.c (.ep [.int .i64 v7.Lo, .int .i64 v7.Hi])] rfl ?_
        refine dl (t := 36) 15 [.agg [.pv (.int .i64 v7.Lo), .pv (.int .i64 v7.Hi)]] rfl ?_
        obtain ⟨v9, k11, h⟩ := bindE h
        refine dl (t := 37) 16 [.agg [.pv (.int .i64 v9.Lo), .pv (.int .i64 v9.Hi)]] rfl ?_
        refine dl (t := 38) 17 [.c (.pv (.bool ((v7.Lo : Int) == v9.Lo && ((v7.Hi : Int) == v9.Hi && true))))] rfl ?_
        refine dl (t := 39) 18 [.c (.pv (.bool ((v7.Lo : Int) == v9.Lo && ((v7.Hi : Int) == v9.Hi && true))))] rfl ?_
        refine dl (t := 40) 19 [.c (.pv (.bool ((v7.Lo : Int) == v9.Lo && ((v7.Hi : Int) == v9.Hi && true))))] rfl ?_
        refine (tf ((v7.Lo : Int) == v9.Lo && ((v7.Hi : Int) == v9.Hi && true))).elim (fun k12 => ?_) (fun k12 => ?_)
        · have h := iteT h k12
          refine dl (t := 41) 20 [.c (.box 2 0)] rfl ?_
          refine dl (t := 42) 21 [.c (.pv (.int .i64 v4.2.1.Chan))] rfl ?_
          refine dl (t := 43) 22 [.c (.pv (.bool (v4.2.1.Chan == (-1))))] rfl ?_
          refine dl (t := 44) 23 [.c (.pv (.bool (v4.2.1.Chan == (-1))))] rfl ?_
          refine dl (t := 45) 24 [.c (.pv (.bool (v4.2.1.Chan == (-1))))] rfl ?_
          refine (tf (v4.2.1.Chan == (-1))).elim (fun k13 => ?_) (fun k13 => ?_)
          · have h := iteT h k13
            refine dl (t := 46) 25 [.c (.pv (.sl (List.map e_i64 v4.2.2)))] rfl ?_
            refine dl (t := 47) 26 [.c (.pv (.int .i64 (v4.2.2.length : Int)))] rfl ?_
            refine dl (t := 48) 27 [.c (.pv (.bool ((v4.2.2.length : Int) == 0)))] rfl ?_
            refine dl (t := 49) 28 [.c (.pv (.bool ((v4.2.2.length : Int) == 0)))] rfl ?_
            refine dl (t := 50) 29 [.c (.pv (.bool ((v4.2.2.length : Int) == 0)))] rfl ?_
            refine (tf ((v4.2.2.length : Int) == 0)).elim (fun k14 => ?_) (fun k14 => ?_)
            · have h := iteT h k14
              refine dl (t := 51) 30 [.agg [.emp, .pv (.sl (List.map e_flow_Graph [(flow_Graph.mk 2 [(flow_Edge.mk 0 1 1 0 0 0 (check_Expr.mk 1 3 0 []) (check_Cond.mk 0 (check_Expr.mk 0 0 0 []) (check_Expr.mk 0 0 0 [])))] [])])), .pv (.sl (List.map e_i64 [1]))]] rfl ?_
              obtain ⟨v11, k16, h⟩ := bindE h
              refine dl (t := 52) 31 [.agg (bs (e_trans_State v11))] rfl ?_
              obtain ⟨v13, k18, h⟩ := bindE h
              refine dl (t := 53) 32 [.c (.pv (.bool v13))] rfl ?_
              refine dl (t := 54) 33 [.c (.pv (.bool v13))] rfl ?_
              refine dl (t := 0) 34 [.c (.pv (.bool v13))] rfl ?_
              refine d_endS (env2 := [(0, [.c (.pv (.bool v13))])]) (wm [0, 1, 3, 7, 15, 31, 63, 127, 255, 511, 1023, 2047, 4095, 8191, 16383, 32767, 2047, 131071, 262143, 524287, 1048575, 2097151, 4194303, 8388607, 16777215, 33554431, 67108863, 134217727, 268435455, 536870911, 1073741823, 2147483647, 4294967295, 8589934591, 17179869183]) (by kernel_rfl) (by kernel_rfl) (by kernel_rfl) (oE tbok [] 1 (by kernel_rfl) (oL [] rfl (by kernel_rfl) (fl_lt (lt_pickT rfl rfl k14 rfl)) (owF (by kernel_rfl) (fo_l [] rfl rfl rfl (by kernel_rfl) (by kernel_rfl) (by kernel_rfl) (gi1 rfl rfl rfl (beT k14)) (fl_call rfl Try.call10 rfl (by kernel_rfl) (by kernel_rfl) (trans_Empty_meets k18))) (owF (by kernel_rfl) (fo_l [] rfl rfl rfl (by kernel_rfl) (by kernel_rfl) (by kernel_rfl) (gi1 rfl rfl rfl (beT k14)) (fl_call rfl Try.call23 rfl (by kernel_rfl) (by kernel_rfl) (trans_None_meets k16))) (owF (by kernel_rfl) (fo_l [] rfl rfl rfl (by kernel_rfl) (by kernel_rfl) (by kernel_rfl) (gi1 rfl rfl rfl (beT k14)) (fl_lt (lt_load_boxA (ys := [.emp, .pv (.sl (List.map e_flow_Graph [(flow_Graph.mk 2 [(flow_Edge.mk 0 1 1 0 0 0 (check_Expr.mk 1 3 0 []) (check_Cond.mk 0 (check_Expr.mk 0 0 0 []) (check_Expr.mk 0 0 0 [])))] [])])), .pv (.sl (List.map e_i64 [1]))]) rfl ty39 rfl rfl (by kernel_rfl) (by kernel_rfl)))) (oE tbok [] 1 (by kernel_rfl) (oL [] rfl (by kernel_rfl) (fl_lt (lt_pickT rfl rfl k13 rfl)) (owF (by kernel_rfl) (fo_l [] rfl rfl rfl (by kernel_rfl) (by kernel_rfl) (by kernel_rfl) (gi1 rfl rfl rfl (beT k13)) (fl_lt (lt_int rfl rfl rfl rfl))) (owF (by kernel_rfl) (fo_l [] rfl rfl rfl (by kernel_rfl) (by kernel_rfl) (by kernel_rfl) (gi1 rfl rfl rfl (beT k13)) (fl_lt (len_sl (e := e_i64) rfl u33 rfl))) (owF (by kernel_rfl) (fo_l [] rfl rfl rfl (by kernel_rfl) (by kernel_rfl) (by kernel_rfl) (gi1 rfl rfl rfl (beT k13)) (fl_lt (lt_move rfl rfl))) (oE tbok [] 1 (by kernel_rfl) (oL [] rfl (by kernel_rfl) (fl_lt (lt_pickT rfl rfl k12 rfl)) (owF (by kernel_rfl) (fo_l [] rfl rfl rfl (by kernel_rfl) (by kernel_rfl) (by kernel_rfl) (gi1 rfl rfl rfl (beT k12)) (fl_lt (lt_int rfl rfl rfl rfl))) (owF (by kernel_rfl) (fo_l [] rfl rfl rfl (by kernel_rfl) (by kernel_rfl) (by kernel_rfl) (gi1 rfl rfl rfl (beT k12)) (fl_lt (lt_load_box rfl ty3 rfl rfl rfl))) (owF (by kernel_rfl) (fo_l [] rfl rfl rfl (by kernel_rfl) (by kernel_rfl) (by kernel_rfl) (gi1 rfl rfl rfl (beT k12)) (fl_lt (lt_fa_box rfl f55_0 ty3 (by decide) rfl))) (oE tbok [] 1 (by kernel_rfl) (oL [] rfl (by kernel_rfl) (fl_lt (lt_pickT rfl rfl k8 rfl)) (owF (by kernel_rfl) (fo_l [] rfl rfl rfl (by kernel_rfl) (by kernel_rfl) (by kernel_rfl) (gi1 rfl rfl rfl (beT k8)) (fl_lt (lt_eqStruct (r := ((v7.Lo : Int) == v9.Lo && ((v7.Hi : Int) == v9.Hi && true))) rfl u53 sp53 eg53 rfl rfl (by kernel_rfl) (.inl ⟨rfl, rfl⟩)))) (owF (by kernel_rfl) (fo_l [] rfl rfl rfl (by kernel_rfl) (by kernel_rfl) (by kernel_rfl) (gi1 rfl rfl rfl (beT k8)) (fl_call rfl Try.call15 rfl (by kernel_rfl) (by kernel_rfl) (itv_Const_meets k11))) (owF (by kernel_rfl) (fo_l [] rfl rfl rfl (by kernel_rfl) (by kernel_rfl) (by kernel_rfl) (gi1 rfl rfl rfl (beT k8)) (fl_lt (lt_load_epA (ys := [.pv (.int .i64 v7.Lo), .pv (.int .i64 v7.Hi)]) rfl ty53 rfl (Nat.le_of_ble_eq_true rfl) (by kernel_rfl)))) (owF (by kernel_rfl) (fo_l [] rfl rfl rfl (by kernel_rfl) (by kernel_rfl) (by kernel_rfl) (gi1 rfl rfl rfl (beT k8)) (fl_lt (ia_sl (e := e_itv_Itv) (y := v7) rfl u40 ty53 rfl rfl k9 rfl))) (owF (by kernel_rfl) (fo_l [] rfl rfl rfl (by kernel_rfl) (by kernel_rfl) (by kernel_rfl) (gi1 rfl rfl rfl (beT k8)) (fl_lt (lt_load_box rfl ty40 rfl rfl rfl))) (owF (by kernel_rfl) (fo_l [] rfl rfl rfl (by kernel_rfl) (by kernel_rfl) (by kernel_rfl) (gi1 rfl rfl rfl (beT k8)) (fl_lt (lt_fa_box rfl f46_1 ty40 (by decide) rfl))) (owF (by kernel_rfl) (fo_l [] rfl rfl rfl (by kernel_rfl) (by kernel_rfl) (by kernel_rfl) (gi1 rfl rfl rfl (beT k8)) (fl_lt (lt_fa_box rfl f49_0 ty46 (by decide) rfl))) (oE tbok [] 1 (by kernel_rfl) (oL [] rfl (by kernel_rfl) (fl_lt (lt_pickT rfl rfl k7 rfl)) (owF (by kernel_rfl) (fo_l [] rfl rfl rfl (by kernel_rfl) (by kernel_rfl) (by kernel_rfl) (gi1 rfl rfl rfl (beT k7)) (fl_lt (lt_int rfl rfl rfl rfl))) (owF (by kernel_rfl) (fo_l [] rfl rfl rfl (by kernel_rfl) (by kernel_rfl) (by kernel_rfl) (gi1 rfl rfl rfl (beT k7)) (fl_lt (len_sl (e := e_itv_Itv) rfl u40 rfl))) (owF (by kernel_rfl) (fo_l [] rfl rfl rfl (by kernel_rfl) (by kernel_rfl) (by kernel_rfl) (gi1 rfl rfl rfl (beT k7)) (fl_lt (lt_load_box rfl ty40 rfl rfl rfl))) (owF (by kernel_rfl) (fo_l [] rfl rfl rfl (by kernel_rfl) (by kernel_rfl) (by kernel_rfl) (gi1 rfl rfl rfl (beT k7)) (fl_lt (lt_fa_box rfl f46_1 ty40 (by decide) rfl))) (owF (by kernel_rfl) (fo_l [] rfl rfl rfl (by kernel_rfl) (by kernel_rfl) (by kernel_rfl) (gi1 rfl rfl rfl (beT k7)) (fl_lt (lt_fa_box rfl f49_0 ty46 (by decide) rfl))) (oE tbok [] 2 (by kernel_rfl) (oL [] rfl (by kernel_rfl) (fl_call rfl Try.call10 rfl (by kernel_rfl) (by kernel_rfl) (trans_Empty_meets k6)) (oE tbok [] 1 (by kernel_rfl) trivial)))))))))))))))))))))))))))))))))) (sub_cons rfl sub_nil) wM ?_
              obtain rfl := retE h
              refine mN ?_
              refine w_cut 0 rfl rfl rfl rfl ?_
              exact wkE (by kernel_rfl) (by kernel_rfl)
            · have h := iteF h k14
              refine ds (t := 51) 30 rfl ?_
              refine ds (t := 52) 31 rfl ?_
              refine ds (t := 53) 32 rfl ?_
              refine dl (t := 54) 33 [.c (.pv (.bool false))] rfl ?_
              refine dl (t := 0) 34 [.c (.pv (.bool false))] rfl ?_
              refine d_endS (env2 := [(0, [.c (.pv (.bool false))])]) (wm [0, 1, 3, 7, 15, 31, 63, 127, 255, 511, 1023, 2047, 4095, 8191, 16383, 32767, 2047, 131071, 262143, 524287, 1048575, 2097151, 4194303, 8388607, 16777215, 33554431, 67108863, 134217727, 268435455, 536870911, 1073741823, 2147483647, 4294967295, 8589934591, 17179869183]) (by kernel_rfl) (by kernel_rfl) (by kernel_rfl) (oE tbok [] 1 (by kernel_rfl) (oL [] rfl (by kernel_rfl) (fl_lt (lt_pickF rfl rfl k14 rfl)) (owF (by kernel_rfl) (fo_s [] rfl rfl rfl (by kernel_rfl) (by kernel_rfl) (by kernel_rfl) (gi1 rfl rfl rfl (beF k14))) (owF (by kernel_rfl) (fo_s [] rfl rfl rfl (by kernel_rfl) (by kernel_rfl) (by kernel_rfl) (gi1 rfl rfl rfl (beF k14))) (owF (by kernel_rfl) (fo_s [] rfl rfl rfl (by kernel_rfl) (by kernel_rfl) (by kernel_rfl) (gi1 rfl rfl rfl (beF k14))) (oE tbok [] 1 (by kernel_rfl) (oL [] rfl (by kernel_rfl) (fl_lt (lt_pickT rfl rfl k13 rfl)) (owF (by kernel_rfl) (fo_l [] rfl rfl rfl (by kernel_rfl) (by kernel_rfl) (by kernel_rfl) (gi1 rfl rfl rfl (beT k13)) (fl_lt (lt_int rfl rfl rfl rfl))) (owF (by kernel_rfl) (fo_l [] rfl rfl rfl (by kernel_rfl) (by kernel_rfl) (by kernel_rfl) (gi1 rfl rfl rfl (beT k13)) (fl_lt (len_sl (e := e_i64) rfl u33 rfl))) (owF (by kernel_rfl) (fo_l [] rfl rfl rfl (by kernel_rfl) (by kernel_rfl) (by kernel_rfl) (gi1 rfl rfl rfl (beT k13)) (fl_lt (lt_move rfl rfl))) (oE tbok [] 1 (by kernel_rfl) (oL [] rfl (by kernel_rfl) (fl_lt (lt_pickT rfl rfl k12 rfl)) (owF (by kernel_rfl) (fo_l [] rfl rfl rfl (by kernel_rfl) (by kernel_rfl) (by kernel_rfl) (gi1 rfl rfl rfl (beT k12)) (fl_lt (lt_int rfl rfl rfl rfl))) (owF (by kernel_rfl) (fo_l [] rfl rfl rfl (by kernel_rfl) (by kernel_rfl) (by kernel_rfl) (gi1 rfl rfl rfl (beT k12)) (fl_lt (lt_load_box rfl ty3 rfl rfl rfl))) (owF (by kernel_rfl) (fo_l [] rfl rfl rfl (by kernel_rfl) (by kernel_rfl) (by kernel_rfl) (gi1 rfl rfl rfl (beT k12)) (fl_lt (lt_fa_box rfl f55_0 ty3 (by decide) rfl))) (oE tbok [] 1 (by kernel_rfl) (oL [] rfl (by kernel_rfl) (fl_lt (lt_pickT rfl rfl k8 rfl)) (owF (by kernel_rfl) (fo_l [] rfl rfl rfl (by kernel_rfl) (by kernel_rfl) (by kernel_rfl) (gi1 rfl rfl rfl (beT k8)) (fl_lt (lt_eqStruct (r := ((v7.Lo : Int) == v9.Lo && ((v7.Hi : Int) == v9.Hi && true))) rfl u53 sp53 eg53 rfl rfl (by kernel_rfl) (.inl ⟨rfl, rfl⟩)))) (owF (by kernel_rfl) (fo_l [] rfl rfl rfl (by kernel_rfl) (by kernel_rfl) (by kernel_rfl) (gi1 rfl rfl rfl (beT k8)) (fl_call rfl Try.call15 rfl (by kernel_rfl) (by kernel_rfl) (itv_Const_meets k11))) (owF (by kernel_rfl) (fo_l [] rfl rfl rfl (by kernel_rfl) (by kernel_rfl) (by kernel_rfl) (gi1 rfl rfl rfl (beT k8)) (fl_lt (lt_load_epA (ys := [.pv (.int .i64 v7.Lo), .pv (.int .i64 v7.Hi)]) rfl ty53 rfl (Nat.le_of_ble_eq_true rfl) (by kernel_rfl)))) (owF (by kernel_rfl) (fo_l [] rfl rfl rfl (by kernel_rfl) (by kernel_rfl) (by kernel_rfl) (gi1 rfl rfl rfl (beT k8)) (fl_lt (ia_sl (e := e_itv_Itv) (y := v7) rfl u40 ty53 rfl rfl k9 rfl))) (owF (by kernel_rfl) (fo_l [] rfl rfl rfl (by kernel_rfl) (by kernel_rfl) (by kernel_rfl) (gi1 rfl rfl rfl (beT k8)) (fl_lt (lt_load_box rfl ty40 rfl rfl rfl))) (owF (by kernel_rfl) (fo_l [] rfl rfl rfl (by kernel_rfl) (by kernel_rfl) (by kernel_rfl) (gi1 rfl rfl rfl (beT k8)) (fl_lt (lt_fa_box rfl f46_1 ty40 (by decide) rfl))) (owF (by kernel_rfl) (fo_l [] rfl rfl rfl (by kernel_rfl) (by kernel_rfl) (by kernel_rfl) (gi1 rfl rfl rfl (beT k8)) (fl_lt (lt_fa_box rfl f49_0 ty46 (by decide) rfl))) (oE tbok [] 1 (by kernel_rfl) (oL [] rfl (by kernel_rfl) (fl_lt (lt_pickT rfl rfl k7 rfl)) (owF (by kernel_rfl) (fo_l [] rfl rfl rfl (by kernel_rfl) (by kernel_rfl) (by kernel_rfl) (gi1 rfl rfl rfl (beT k7)) (fl_lt (lt_int rfl rfl rfl rfl))) (owF (by kernel_rfl) (fo_l [] rfl rfl rfl (by kernel_rfl) (by kernel_rfl) (by kernel_rfl) (gi1 rfl rfl rfl (beT k7)) (fl_lt (len_sl (e := e_itv_Itv) rfl u40 rfl))) (owF (by kernel_rfl) (fo_l [] rfl rfl rfl (by kernel_rfl) (by kernel_rfl) (by kernel_rfl) (gi1 rfl rfl rfl (beT k7)) (fl_lt (lt_load_box rfl ty40 rfl rfl rfl))) (owF (by kernel_rfl) (fo_l [] rfl rfl rfl (by kernel_rfl) (by kernel_rfl) (by kernel_rfl) (gi1 rfl rfl rfl (beT k7)) (fl_lt (lt_fa_box rfl f46_1 ty40 (by decide) rfl))) (owF (by kernel_rfl) (fo_l [] rfl rfl rfl (by kernel_rfl) (by kernel_rfl) (by kernel_rfl) (gi1 rfl rfl rfl (beT k7)) (fl_lt (lt_fa_box rfl f49_0 ty46 (by decide) rfl))) (oE tbok [] 2 (by kernel_rfl) (oL [] rfl (by kernel_rfl) (fl_call rfl Try.call10 rfl (by kernel_rfl) (by kernel_rfl) (trans_Empty_meets k6)) (oE tbok [] 1 (by kernel_rfl) trivial)))))))))))))))))))))))))))))))))) (sub_cons rfl sub_nil) wM ?_
              obtain rfl := retE h
              refine mN ?_
              refine w_cut 0 rfl rfl rfl rfl ?_
              exact wkE (by kernel_rfl) (by kernel_rfl)
          · have h := iteF h k13
            refine ds (t := 46) 25 rfl ?_
            refine ds (t := 47) 26 rfl ?_
            refine ds (t := 48) 27 rfl ?_
            refine dl (t := 49) 28 [.c (.pv (.bool false))] rfl ?_
            refine dl (t := 50) 29 [.c (.pv (.bool false))] rfl ?_
            refine ds (t := 51) 30 rfl ?_
            refine ds (t := 52) 31 rfl ?_
            refine ds (t := 53) 32 rfl ?_
            refine dl (t := 54) 33 [.c (.pv (.bool false))] rfl ?_
            refine dl (t := 0) 34 [.c (.pv (.bool false))] rfl ?_
            refine d_endS (env2 := [(0, [.c (.pv (.bool false))])]) (wm [0, 1, 3, 7, 15, 31, 63, 127, 255, 511, 1023, 2047, 4095, 8191, 16383, 32767, 2047, 131071, 262143, 524287, 1048575, 2097151, 4194303, 8388607, 16777215, 33554431, 67108863, 134217727, 268435455, 536870911, 1073741823, 2147483647, 4294967295, 8589934591, 17179869183]) (by kernel_rfl) (by kernel_rfl) (by kernel_rfl) (oE tbok [] 1 (by kernel_rfl) (oL [] rfl (by kernel_rfl) (fl_lt (lt_pickF rfl rfl rfl rfl)) (owF (by kernel_rfl) (fo_s [] rfl rfl rfl (by kernel_rfl) (by kernel_rfl) (by kernel_rfl) (gi1 rfl rfl rfl (beF rfl))) (owF (by kernel_rfl) (fo_s [] rfl rfl rfl (by kernel_rfl) (by kernel_rfl) (by kernel_rfl) (gi1 rfl rfl rfl (beF rfl))) (owF (by kernel_rfl) (fo_s [] rfl rfl rfl (by kernel_rfl) (by kernel_rfl) (by kernel_rfl) (gi1 rfl rfl rfl (beF rfl))) (oE tbok [] 1 (by kernel_rfl) (oL [] rfl (by kernel_rfl) (fl_lt (lt_pickF rfl rfl k13 rfl)) (owF (by kernel_rfl) (fo_s [] rfl rfl rfl (by kernel_rfl) (by kernel_rfl) (by kernel_rfl) (gi1 rfl rfl rfl (beF k13))) (owF (by kernel_rfl) (fo_s [] rfl rfl rfl (by kernel_rfl) (by kernel_rfl) (by kernel_rfl) (gi1 rfl rfl rfl (beF k13))) (owF (by kernel_rfl) (fo_s [] rfl rfl rfl (by kernel_rfl) (by kernel_rfl) (by kernel_rfl) (gi1 rfl rfl rfl (beF k13))) (oE tbok [] 1 (by kernel_rfl) (oL [] rfl (by kernel_rfl) (fl_lt (lt_pickT rfl rfl k12 rfl)) (owF (by kernel_rfl) (fo_l [] rfl rfl rfl (by kernel_rfl) (by kernel_rfl) (by kernel_rfl) (gi1 rfl rfl rfl (beT k12)) (fl_lt (lt_int rfl rfl rfl rfl))) (owF (by kernel_rfl) (fo_l [] rfl rfl rfl (by kernel_rfl) (by kernel_rfl) (by kernel_rfl) (gi1 rfl rfl rfl (beT k12)) (fl_lt (lt_load_box rfl ty3 rfl rfl rfl))) (owF (by kernel_rfl) (fo_l [] rfl rfl rfl (by kernel_rfl) (by kernel_rfl) (by kernel_rfl) (gi1 rfl rfl rfl (beT k12)) (fl_lt (lt_fa_box rfl f55_0 ty3 (by decide) rfl))) (oE tbok [] 1 (by kernel_rfl) (oL [] rfl (by kernel_rfl) (fl_lt (lt_pickT rfl rfl k8 rfl)) (owF (by kernel_rfl) (fo_l [] rfl rfl rfl (by kernel_rfl) (by kernel_rfl) (by kernel_rfl) (gi1 rfl rfl rfl (beT k8)) (fl_lt (lt_eqStruct (r := ((v7.Lo : Int) == v9.Lo && ((v7.Hi : Int) == v9.Hi && true))) rfl u53 sp53 eg53 rfl rfl (by kernel_rfl) (.inl ⟨rfl, rfl⟩)))) (owF (by kernel_rfl) (fo_l [] rfl rfl rfl (by kernel_rfl) (by kernel_rfl) (by kernel_rfl) (gi1 rfl rfl rfl (beT k8)) (fl_call rfl Try.call15 rfl (by kernel_rfl) (by kernel_rfl) (itv_Const_meets k11))) (owF (by kernel_rfl) (fo_l [] rfl rfl rfl (by kernel_rfl) (by kernel_rfl) (by kernel_rfl) (gi1 rfl rfl rfl (beT k8)) (fl_lt (lt_load_epA (ys := [.pv (.int .i64 v7.Lo), .pv (.int .i64 v7.Hi)]) rfl ty53 rfl (Nat.le_of_ble_eq_true rfl) (by kernel_rfl)))) (owF (by kernel_rfl) (fo_l [] rfl rfl rfl (by kernel_rfl) (by kernel_rfl) (by kernel_rfl) (gi1 rfl rfl rfl (beT k8)) (fl_lt (ia_sl (e := e_itv_Itv) (y := v7) rfl u40 ty53 rfl rfl k9 rfl))) (owF (by kernel_rfl) (fo_l [] rfl rfl rfl (by kernel_rfl) (by kernel_rfl) (by kernel_rfl) (gi1 rfl rfl rfl (beT k8)) (fl_lt (lt_load_box rfl ty40 rfl rfl rfl))) (owF (by kernel_rfl) (fo_l [] rfl rfl rfl (by kernel_rfl) (by kernel_rfl) (by kernel_rfl) (gi1 rfl rfl rfl (beT k8)) (fl_lt (lt_fa_box rfl f46_1 ty40 (by decide) rfl))) (owF (by kernel_rfl) (fo_l [] rfl rfl rfl (by kernel_rfl) (by kernel_rfl) (by kernel_rfl) (gi1 rfl rfl rfl (beT k8)) (fl_lt (lt_fa_box rfl f49_0 ty46 (by decide) rfl))) (oE tbok [] 1 (by kernel_rfl) (oL [] rfl (by kernel_rfl) (fl_lt (lt_pickT rfl rfl k7 rfl)) (owF (by kernel_rfl) (fo_l [] rfl rfl rfl (by kernel_rfl) (by kernel_rfl) (by kernel_rfl) (gi1 rfl rfl rfl (beT k7)) (fl_lt (lt_int rfl rfl rfl rfl))) (owF (by kernel_rfl) (fo_l [] rfl rfl rfl (by kernel_rfl) (by kernel_rfl) (by kernel_rfl) (gi1 rfl rfl rfl (beT k7)) (fl_lt (len_sl (e := e_itv_Itv) rfl u40 rfl))) (owF (by kernel_rfl) (fo_l [] rfl rfl rfl (by kernel_rfl) (by kernel_rfl) (by kernel_rfl) (gi1 rfl rfl rfl (beT k7)) (fl_lt (lt_load_box rfl ty40 rfl rfl rfl))) (owF (by kernel_rfl) (fo_l [] rfl rfl rfl (by kernel_rfl) (by kernel_rfl) (by kernel_rfl) (gi1 rfl rfl rfl (beT k7)) (fl_lt (lt_fa_box rfl f46_1 ty40 (by decide) rfl))) (owF (by kernel_rfl) (fo_l [] rfl rfl rfl (by kernel_rfl) (by kernel_rfl) (by kernel_rfl) (gi1 rfl rfl rfl (beT k7)) (fl_lt (lt_fa_box rfl f49_0 ty46 (by decide) rfl))) (oE tbok [] 2 (by kernel_rfl) (oL [] rfl (by kernel_rfl) (fl_call rfl Try.call10 rfl (by kernel_rfl) (by kernel_rfl) (trans_Empty_meets k6)) (oE tbok [] 1 (by kernel_rfl) trivial)))))))))))))))))))))))))))))))))) (sub_cons rfl sub_nil) wM ?_
            obtain rfl := retE h
            refine mN ?_
            refine w_cut 0 rfl rfl rfl rfl ?_
            exact wkE (by kernel_rfl) (by kernel_rfl)
        · have h := iteF h k12
          refine ds (t := 41) 20 rfl ?_
          refine ds (t := 42) 21 rfl ?_
          refine ds (t := 43) 22 rfl ?_
          refine dl (t := 44) 23 [.c (.pv (.bool false))] rfl ?_
          refine dl (t := 45) 24 [.c (.pv (.bool false))] rfl ?_
          refine ds (t := 46) 25 rfl ?_
          refine ds (t := 47) 26 rfl ?_
          refine ds (t := 48) 27 rfl ?_
          refine dl (t := 49) 28 [.c (.pv (.bool false))] rfl ?_
          refine dl (t := 50) 29 [.c (.pv (.bool false))] rfl ?_
          refine ds (t := 51) 30 rfl ?_
          refine ds (t := 52) 31 rfl ?_
          refine ds (t := 53) 32 rfl ?_
          refine dl (t := 54) 33 [.c (.pv (.bool false))] rfl ?_
          refine dl (t := 0) 34 [.c (.pv (.bool false))] rfl ?_
          refine d_endS (env2 := [(0, [.c (.pv (.bool false))])]) (wm [0, 1, 3, 7, 15, 31, 63, 127, 255, 511, 1023, 2047, 4095, 8191, 16383, 32767, 2047, 131071, 262143, 524287, 1048575, 2097151, 4194303, 8388607, 16777215, 33554431, 67108863, 134217727, 268435455, 536870911, 1073741823, 2147483647, 4294967295, 8589934591, 17179869183]) (by kernel_rfl) (by kernel_rfl) (by kernel_rfl) (oE tbok [] 1 (by kernel_rfl) (oL [] rfl (by kernel_rfl) (fl_lt (lt_pickF rfl rfl rfl rfl)) (owF (by kernel_rfl) (fo_s [] rfl rfl rfl (by kernel_rfl) (by kernel_rfl) (by kernel_rfl) (gi1 rfl rfl rfl (beF rfl))) (owF (by kernel_rfl) (fo_s [] rfl rfl rfl (by kernel_rfl) (by kernel_rfl) (by kernel_rfl) (gi1 rfl rfl rfl (beF rfl))) (owF (by kernel_rfl) (fo_s [] rfl rfl rfl (by kernel_rfl) (by kernel_rfl) (by kernel_rfl) (gi1 rfl rfl rfl (beF rfl))) (oE tbok [] 1 (by kernel_rfl) (oL [] rfl (by kernel_rfl) (fl_lt (lt_pickF rfl rfl rfl rfl)) (owF (by kernel_rfl) (fo_s [] rfl rfl rfl (by kernel_rfl) (by kernel_rfl) (by kernel_rfl) (gi1 rfl rfl rfl (beF rfl))) (owF (by kernel_rfl) (fo_s [] rfl rfl rfl (by kernel_rfl) (by kernel_rfl) (by kernel_rfl) (gi1 rfl rfl rfl (beF rfl))) (owF (by kernel_rfl) (fo_s [] rfl rfl rfl (by kernel_rfl) (by kernel_rfl) (by kernel_rfl) (gi1 rfl rfl rfl (beF rfl))) (oE tbok [] 1 (by kernel_rfl) (oL [] rfl (by kernel_rfl) (fl_lt (lt_pickF rfl rfl k12 rfl)) (owF (by kernel_rfl) (fo_s [] rfl rfl rfl (by kernel_rfl) (by kernel_rfl) (by kernel_rfl) (gi1 rfl rfl rfl (beF k12))) (owF (by kernel_rfl) (fo_s [] rfl rfl rfl (by kernel_rfl) (by kernel_rfl) (by kernel_rfl) (gi1 rfl rfl rfl (beF k12))) (owF (by kernel_rfl) (fo_s [] rfl rfl rfl (by kernel_rfl) (by kernel_rfl) (by kernel_rfl) (gi1 rfl rfl rfl (beF k12))) (oE tbok [] 1 (by kernel_rfl) (oL [] rfl (by kernel_rfl) (fl_lt (lt_pickT rfl rfl k8 rfl)) (owF (by kernel_rfl) (fo_l [] rfl rfl rfl (by kernel_rfl) (by kernel_rfl) (by kernel_rfl) (gi1 rfl rfl rfl (beT k8)) (fl_lt (lt_eqStruct (r := ((v7.Lo : Int) == v9.Lo && ((v7.Hi : Int) == v9.Hi && true))) rfl u53 sp53 eg53 rfl rfl (by kernel_rfl) (.inl ⟨rfl, rfl⟩)))) (owF (by kernel_rfl) (fo_l [] rfl rfl rfl (by kernel_rfl) (by kernel_rfl) (by kernel_rfl) (gi1 rfl rfl rfl (beT k8)) (fl_call rfl Try.call15 rfl (by kernel_rfl) (by kernel_rfl) (itv_Const_meets k11))) (owF (by kernel_rfl) (fo_l [] rfl rfl rfl (by kernel_rfl) (by kernel_rfl) (by kernel_rfl) (gi1 rfl rfl rfl (beT k8)) (fl_lt (lt_load_epA (ys := [.pv (.int .i64 v7.Lo), .pv (.int .i64 v7.Hi)]) rfl ty53 rfl (Nat.le_of_ble_eq_true rfl) (by kernel_rfl)))) (owF (by kernel_rfl) (fo_l [] rfl rfl rfl (by kernel_rfl) (by kernel_rfl) (by kernel_rfl) (gi1 rfl rfl rfl (beT k8)) (fl_lt (ia_sl (e := e_itv_Itv) (y := v7) rfl u40 ty53 rfl rfl k9 rfl))) (owF (by kernel_rfl) (fo_l [] rfl rfl rfl (by kernel_rfl) (by kernel_rfl) (by kernel_rfl) (gi1 rfl rfl rfl (beT k8)) (fl_lt (lt_load_box rfl ty40 rfl rfl rfl))) (owF (by kernel_rfl) (fo_l [] rfl rfl rfl (by kernel_rfl) (by kernel_rfl) (by kernel_rfl) (gi1 rfl rfl rfl (beT k8)) (fl_lt (lt_fa_box rfl f46_1 ty40 (by decide) rfl))) (owF (by kernel_rfl) (fo_l [] rfl rfl rfl (by kernel_rfl) (by kernel_rfl) (by kernel_rfl) (gi1 rfl rfl rfl (beT k8)) (fl_lt (lt_fa_box rfl f49_0 ty46 (by decide) rfl))) (oE tbok [] 1 (by kernel_rfl) (oL [] rfl (by kernel_rfl) (fl_lt (lt_pickT rfl rfl k7 rfl)) (owF (by kernel_rfl) (fo_l [] rfl rfl rfl (by kernel_rfl) (by kernel_rfl) (by kernel_rfl) (gi1 rfl rfl rfl (beT k7)) (fl_lt (lt_int rfl rfl rfl rfl))) (owF (by kernel_rfl) (fo_l [] rfl rfl rfl (by kernel_rfl) (by kernel_rfl) (by kernel_rfl) (gi1 rfl rfl rfl (beT k7)) (fl_lt (len_sl (e := e_itv_Itv) rfl u40 rfl))) (owF (by kernel_rfl) (fo_l [] rfl rfl rfl (by kernel_rfl) (by kernel_rfl) (by kernel_rfl) (gi1 rfl rfl rfl (beT k7)) (fl_lt (lt_load_box rfl ty40 rfl rfl rfl))) (owF (by kernel_rfl) (fo_l [] rfl rfl rfl (by kernel_rfl) (by kernel_rfl) (by kernel_rfl) (gi1 rfl rfl rfl (beT k7)) (fl_lt (lt_fa_box rfl f46_1 ty40 (by decide) rfl))) (owF (by kernel_rfl) (fo_l [] rfl rfl rfl (by kernel_rfl) (by kernel_rfl) (by kernel_rfl) (gi1 rfl rfl rfl (beT k7)) (fl_lt (lt_fa_box rfl f49_0 ty46 (by decide) rfl))) (oE tbok [] 2 (by kernel_rfl) (oL [] rfl (by kernel_rfl) (fl_call rfl Try.call10 rfl (by kernel_rfl) (by kernel_rfl) (trans_Empty_meets k6)) (oE tbok [] 1 (by kernel_rfl) trivial)))))))))))))))))))))))))))))))))) (sub_cons rfl sub_nil) wM ?_
          obtain rfl := retE h
          refine mN ?_
          refine w_cut 0 rfl rfl rfl rfl ?_
          exact wkE (by kernel_rfl) (by kernel_rfl)
      · have h := iteF h k8
        refine ds (t := 32) 11 rfl ?_
        refine ds (t := 33) 12 rfl ?_
        refine ds (t := 34) 13 rfl ?_
        refine ds (t := 35) 14 rfl ?_
        refine ds (t := 36) 15 rfl ?_
        refine ds (t := 37) 16 rfl ?_
        refine ds (t := 38) 17 rfl ?_
        refine dl (t := 39) 18 [.c (.pv (.bool false))] rfl ?_
        refine dl (t := 40) 19 [.c (.pv (.bool false))] rfl ?_
        refine ds (t := 41) 20 rfl ?_
        refine ds (t := 42) 21 rfl ?_
        refine ds (t := 43) 22 rfl ?_
        refine dl (t := 44) 23 [.c (.pv (.bool false))] rfl ?_
        refine dl (t := 45) 24 [.c (.pv (.bool false))] rfl ?_
        refine ds (t := 46) 25 rfl ?_
        refine ds (t := 47) 26 rfl ?_
        refine ds (t := 48) 27 rfl ?_
        refine dl (t := 49) 28 [.c (.pv (.bool false))] rfl ?_
        refine dl (t := 50) 29 [.c (.pv (.bool false))] rfl ?_
        refine ds (t := 51) 30 rfl ?_
        refine ds (t := 52) 31 rfl ?_
        refine ds (t := 53) 32 rfl ?_
        refine dl (t := 54) 33 [.c (.pv (.bool false))] rfl ?_
        refine dl (t := 0) 34 [.c (.pv (.bool false))] rfl ?_
        refine d_endS (env2 := [(0, [.c (.pv (.bool false))])]) (wm [0, 1, 3, 7, 15, 31, 63, 127, 255, 511, 1023, 2047, 4095, 8191, 16383, 32767, 2047, 131071, 262143, 524287, 1048575, 2097151, 4194303, 8388607, 16777215, 33554431, 67108863, 134217727, 268435455, 536870911, 1073741823, 2147483647, 4294967295, 8589934591, 17179869183]) (by kernel_rfl) (by kernel_rfl) (by kernel_rfl) (oE tbok [] 1 (by kernel_rfl) (oL [] rfl (by kernel_rfl) (fl_lt (lt_pickF rfl rfl rfl rfl)) (owF (by kernel_rfl) (fo_s [] rfl rfl rfl (by kernel_rfl) (by kernel_rfl) (by kernel_rfl) (gi1 rfl rfl rfl (beF rfl))) (owF (by kernel_rfl) (fo_s [] rfl rfl rfl (by kernel_rfl) (by kernel_rfl) (by kernel_rfl) (gi1 rfl rfl rfl (beF rfl))) (owF (by kernel_rfl) (fo_s [] rfl rfl rfl (by kernel_rfl) (by kernel_rfl) (by kernel_rfl) (gi1 rfl rfl rfl (beF rfl))) (oE tbok [] 1 (by kernel_rfl) (oL [] rfl (by kernel_rfl) (fl_lt (lt_pickF rfl rfl rfl rfl)) (owF (by kernel_rfl) (fo_s [] rfl rfl rfl (by kernel_rfl) (by kernel_rfl) (by kernel_rfl) (gi1 rfl rfl rfl (beF rfl))) (owF (by kernel_rfl) (fo_s [] rfl rfl rfl (by kernel_rfl) (by kernel_rfl) (by kernel_rfl) (gi1 rfl rfl rfl (beF rfl))) (owF (by kernel_rfl) (fo_s [] rfl rfl rfl (by kernel_rfl) (by kernel_rfl) (by kernel_rfl) (gi1 rfl rfl rfl (beF rfl))) (oE tbok [] 1 (by kernel_rfl) (oL [] rfl (by kernel_rfl) (fl_lt (lt_pickF rfl rfl rfl rfl)) (owF (by kernel_rfl) (fo_s [] rfl rfl rfl (by kernel_rfl) (by kernel_rfl) (by kernel_rfl) (gi1 rfl rfl rfl (beF rfl))) (owF (by kernel_rfl) (fo_s [] rfl rfl rfl (by kernel_rfl) (by kernel_rfl) (by kernel_rfl) (gi1 rfl rfl rfl (beF rfl))) (owF (by kernel_rfl) (fo_s [] rfl rfl rfl (by kernel_rfl) (by kernel_rfl) (by kernel_rfl) (gi1 rfl rfl rfl (beF rfl))) (oE tbok [] 1 (by kernel_rfl) (oL [] rfl (by kernel_rfl) (fl_lt (lt_pickF rfl rfl k8 rfl)) (owF (by kernel_rfl) (fo_s [] rfl rfl rfl (by kernel_rfl) (by kernel_rfl) (by kernel_rfl) (gi1 rfl rfl rfl (beF k8))) (owF (by kernel_rfl) (fo_s [] rfl rfl rfl (by kernel_rfl) (by kernel_rfl) (by kernel_rfl) (gi1 rfl rfl rfl (beF k8))) (owF (by kernel_rfl) (fo_s [] rfl rfl rfl (by kernel_rfl) (by kernel_rfl) (by kernel_rfl) (gi1 rfl rfl rfl (beF k8))) (owF (by kernel_rfl) (fo_s [] rfl rfl rfl (by kernel_rfl) (by kernel_rfl) (by kernel_rfl) (gi1 rfl rfl rfl (beF k8))) (owF (by kernel_rfl) (fo_s [] rfl rfl rfl (by kernel_rfl) (by kernel_rfl) (by kernel_rfl) (gi1 rfl rfl rfl (beF k8))) (owF (by kernel_rfl) (fo_s [] rfl rfl rfl (by kernel_rfl) (by kernel_rfl) (by kernel_rfl) (gi1 rfl rfl rfl (beF k8))) (owF (by kernel_rfl) (fo_s [] rfl rfl rfl (by kernel_rfl) (by kernel_rfl) (by kernel_rfl) (gi1 rfl rfl rfl (beF k8))) (oE tbok [] 1 (by kernel_rfl) (oL [] rfl (by kernel_rfl) (fl_lt (lt_pickT rfl rfl k7 rfl)) (owF (by kernel_rfl) (fo_l [] rfl rfl rfl (by kernel_rfl) (by kernel_rfl) (by kernel_rfl) (gi1 rfl rfl rfl (beT k7)) (fl_lt (lt_int rfl rfl rfl rfl))) (owF (by kernel_rfl) (fo_l [] rfl rfl rfl (by kernel_rfl) (by kernel_rfl) (by kernel_rfl) (gi1 rfl rfl rfl (beT k7)) (fl_lt (len_sl (e := e_itv_Itv) rfl u40 rfl))) (owF (by kernel_rfl) (fo_l [] rfl rfl rfl (by kernel_rfl) (by kernel_rfl) (by kernel_rfl) (gi1 rfl rfl rfl (beT k7)) (fl_lt (lt_load_box rfl ty40 rfl rfl rfl))) (owF (by kernel_rfl) (fo_l [] rfl rfl rfl (by kernel_rfl) (by kernel_rfl) (by kernel_rfl) (gi1 rfl rfl rfl (beT k7)) (fl_lt (lt_fa_box rfl f46_1 ty40 (by decide) rfl))) (owF (by kernel_rfl) (fo_l [] rfl rfl rfl (by kernel_rfl) (by kernel_rfl) (by kernel_rfl) (gi1 rfl rfl rfl (beT k7)) (fl_lt (lt_fa_box rfl f49_0 ty46 (by decide) rfl))) (oE tbok [] 2 (by kernel_rfl) (oL [] rfl (by kernel_rfl) (fl_call rfl Try.call10 rfl (by kernel_rfl) (by kernel_rfl) (trans_Empty_meets k6)) (oE tbok [] 1 (by kernel_rfl) trivial)))))))))))))))))))))))))))))))))) (sub_cons rfl sub_nil) wM ?_
        obtain rfl := retE h
        refine mN ?_
        refine w_cut 0 rfl rfl rfl rfl ?_
        exact wkE (by kernel_rfl) (by kernel_rfl)
    · have h := iteF h k7
      refine ds (t := 25) 4 rfl ?_
      refine ds (t := 26) 5 rfl ?_
      refine ds (t := 27) 6 rfl ?_
      refine ds (t := 28) 7 rfl ?_
      refine ds (t := 29) 8 rfl ?_
      refine dl (t := 30) 9 [.c (.pv (.bool false))] rfl ?_
      refine dl (t := 31) 10 [.c (.pv (.bool false))] rfl ?_
      refine ds (t := 32) 11 rfl ?_
      refine ds (t := 33) 12 rfl ?_
      refine ds (t := 34) 13 rfl ?_
      refine ds (t := 35) 14 rfl ?_
      refine ds (t := 36) 15 rfl ?_
      refine ds (t := 37) 16 rfl ?_
      refine ds (t := 38) 17 rfl ?_
      refine dl (t := 39) 18 [.c (.pv (.bool false))] rfl ?_
      refine dl (t := 40) 19 [.c (.pv (.bool false))] rfl ?_
      refine ds (t := 41) 20 rfl ?_
      refine ds (t := 42) 21 rfl ?_
      refine ds (t := 43) 22 rfl ?_
      refine dl (t := 44) 23 [.c (.pv (.bool false))] rfl ?_
      refine dl (t := 45) 24 [.c (.pv (.bool false))] rfl ?_
      refine ds (t := 46) 25 rfl ?_
      refine ds (t := 47) 26 rfl ?_
      refine ds (t := 48) 27 rfl ?_
      refine dl (t := 49) 28 [.c (.pv (.bool false))] rfl ?_
      refine dl (t := 50) 29 [.c (.pv (.bool false))] rfl ?_
      refine ds (t := 51) 30 rfl ?_
      refine ds (t := 52) 31 rfl ?_
      refine ds (t := 53) 32 rfl ?_
      refine dl (t := 54) 33 [.c (.pv (.bool false))] rfl ?_
      refine dl (t := 0) 34 [.c (.pv (.bool false))] rfl ?_
      refine d_endS (env2 := [(0, [.c (.pv (.bool false))])]) (wm [0, 1, 3, 7, 15, 31, 63, 127, 255, 511, 1023, 2047, 4095, 8191, 16383, 32767, 2047, 131071, 262143, 524287, 1048575, 2097151, 4194303, 8388607, 16777215, 33554431, 67108863, 134217727, 268435455, 536870911, 1073741823, 2147483647, 4294967295, 8589934591, 17179869183]) (by kernel_rfl) (by kernel_rfl) (by kernel_rfl) (oE tbok [] 1 (by kernel_rfl) (oL [] rfl (by kernel_rfl) (fl_lt (lt_pickF rfl rfl rfl rfl)) (owF (by kernel_rfl) (fo_s [] rfl rfl rfl (by kernel_rfl) (by kernel_rfl) (by kernel_rfl) (gi1 rfl rfl rfl (beF rfl))) (owF (by kernel_rfl) (fo_s [] rfl rfl rfl (by kernel_rfl) (by kernel_rfl) (by kernel_rfl) (gi1 rfl rfl rfl (beF rfl))) (owF (by kernel_rfl) (fo_s [] rfl rfl rfl (by kernel_rfl) (by kernel_rfl) (by kernel_rfl) (gi1 rfl rfl rfl (beF rfl))) (oE tbok [] 1 (by kernel_rfl) (oL [] rfl (by kernel_rfl) (fl_lt (lt_pickF rfl rfl rfl rfl)) (owF (by kernel_rfl) (fo_s [] rfl rfl rfl (by kernel_rfl) (by kernel_rfl) (by kernel_rfl) (gi1 rfl rfl rfl (beF rfl))) (owF (by kernel_rfl) (fo_s [] rfl rfl rfl (by kernel_rfl) (by kernel_rfl) (by kernel_rfl) (gi1 rfl rfl rfl (beF rfl))) (owF (by kernel_rfl) (fo_s [] rfl rfl rfl (by kernel_rfl) (by kernel_rfl) (by kernel_rfl) (gi1 rfl rfl rfl (beF rfl))) (oE tbok [] 1 (by kernel_rfl) (oL [] rfl (by kernel_rfl) (fl_lt (lt_pickF rfl rfl rfl rfl)) (owF (by kernel_rfl) (fo_s [] rfl rfl rfl (by kernel_rfl) (by kernel_rfl) (by kernel_rfl) (gi1 rfl rfl rfl (beF rfl))) (owF (by kernel_rfl) (fo_s [] rfl rfl rfl (by kernel_rfl) (by kernel_rfl) (by kernel_rfl) (gi1 rfl rfl rfl (beF rfl))) (owF (by kernel_rfl) (fo_s [] rfl rfl rfl (by kernel_rfl) (by kernel_rfl) (by kernel_rfl) (gi1 rfl rfl rfl (beF rfl))) (oE tbok [] 1 (by kernel_rfl) (oL [] rfl (by kernel_rfl) (fl_lt (lt_pickF rfl rfl rfl rfl)) (owF (by kernel_rfl) (fo_s [] rfl rfl rfl (by kernel_rfl) (by kernel_rfl) (by kernel_rfl) (gi1 rfl rfl rfl (beF rfl))) (owF (by kernel_rfl) (fo_s [] rfl rfl rfl (by kernel_rfl) (by kernel_rfl) (by kernel_rfl) (gi1 rfl rfl rfl (beF rfl))) (owF (by kernel_rfl) (fo_s [] rfl rfl rfl (by kernel_rfl) (by kernel_rfl) (by kernel_rfl) (gi1 rfl rfl rfl (beF rfl))) (owF (by kernel_rfl) (fo_s [] rfl rfl rfl (by kernel_rfl) (by kernel_rfl) (by kernel_rfl) (gi1 rfl rfl rfl (beF rfl))) (owF (by kernel_rfl) (fo_s [] rfl rfl rfl (by kernel_rfl) (by kernel_rfl) (by kernel_rfl) (gi1 rfl rfl rfl (beF rfl))) (owF (by kernel_rfl) (fo_s [] rfl rfl rfl (by kernel_rfl) (by kernel_rfl) (by kernel_rfl) (gi1 rfl rfl rfl (beF rfl))) (owF (by kernel_rfl) (fo_s [] rfl rfl rfl (by kernel_rfl) (by kernel_rfl) (by kernel_rfl) (gi1 rfl rfl rfl (beF rfl))) (oE tbok [] 1 (by kernel_rfl) (oL [] rfl (by kernel_rfl) (fl_lt (lt_pickF rfl rfl k7 rfl)) (owF (by kernel_rfl) (fo_s [] rfl rfl rfl (by kernel_rfl) (by kernel_rfl) (by kernel_rfl) (gi1 rfl rfl rfl (beF k7))) (owF (by kernel_rfl) (fo_s [] rfl rfl rfl (by kernel_rfl) (by kernel_rfl) (by kernel_rfl) (gi1 rfl rfl rfl (beF k7))) (owF (by kernel_rfl) (fo_s [] rfl rfl rfl (by kernel_rfl) (by kernel_rfl) (by kernel_rfl) (gi1 rfl rfl rfl (beF k7))) (owF (by kernel_rfl) (fo_s [] rfl rfl rfl (by kernel_rfl) (by kernel_rfl) (by kernel_rfl) (gi1 rfl rfl rfl (beF k7))) (owF (by kernel_rfl) (fo_s [] rfl rfl rfl (by kernel_rfl) (by kernel_rfl) (by kernel_rfl) (gi1 rfl rfl rfl (beF k7))) (oE tbok [] 2 (by kernel_rfl) (oL [] rfl (by kernel_rfl) (fl_call rfl Try.call10 rfl (by kernel_rfl) (by kernel_rfl) (trans_Empty_meets k6)) (oE tbok [] 1 (by kernel_rfl) trivial)))))))))))))))))))))))))))))))))) (sub_cons rfl sub_nil) wM ?_
      obtain rfl := retE h
      refine mN ?_
      refine w_cut 0 rfl rfl rfl rfl ?_
      exact wkE (by kernel_rfl) (by kernel_rfl)
  · refine then_ ?_
    refine ret_ ?_
    obtain rfl := retE h
    refine rwr (rw_ (.tmp rfl .nil) ?_)
    exact wkE (by kernel_rfl) (by kernel_rfl)
end Go.Proofs.Ytbebnddalipfhaa.Abs
