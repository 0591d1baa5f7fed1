/- Gb: the walks. -/
import Derived.Test.YtbebnddalipfhaaGreatGbW3
namespace Go.Proofs.YtbebnddalipfhaaGreat.Abs
open Go Go.RowKit
set_option linter.unusedVariables false
set_option maxRecDepth 100000
set_option maxHeartbeats 4000000
theorem l14_TransSkips_meets {a0 : (Nat → Int)} {a1 : l14_More} {r : Bool} (h : l14_TransSkips a0 a1 = some r) : MeetsV Tryz.prog GG 4 [.agg [.pv (.int .i32 (a0 0)), .pv (.int .i32 (a0 1))], .agg [.pv (.sl (List.map e_i32 a1.Vars)), .pv (.int .i64 a1.Counts), .pv (.int .u8 a1.Rules)]] [.c (.pv (.bool r))] := by
  refine MeetsS.toV (meetsW_of (st0 := []) (N := 113) r_l14_TransSkips o_l14_TransSkips r Tryz.func4 rfl rfl rfl (by dsimp only [argEnv]) rfl ?_) rfl
  unfold l14_TransSkips at h
  refine seq_ ?_
  refine region_ ?_
  refine B rfl rfl (bir_box rfl rfl rfl) rfl rfl .z ?_
  refine B rfl rfl (bir_box rfl rfl rfl) rfl rfl (.s .z) ?_
  refine R tbok 1 [4, 3, 2] [(4, [.c (.pv (.bool false))]), (3, [.c (.box 1 0)]), (2, [.c (.box 0 0)])] (by kernel_rfl) ?_
  refine ops_nil ?_
  refine then_ ?_
  refine seq_ ?_
  refine region_ ?_
  refine L rfl rfl (lt_build (cs := [.pv (.int .i64 0), .pv (.int .i64 1), .pv (.int .i64 0), .pv (.int .i64 0), .pv (.int .i64 0), .pv (.int .i64 0), .pv (.int .i64 0), .pv (.int .i64 0), .pv (.int .i64 0), .emp, .pv (.int .i64 0), .pv (.int .i64 0), .pv (.int .i64 0), .pv (.int .i64 0), .emp, .pv (.int .i64 0), .pv (.int .i64 0), .pv (.int .i64 0), .emp]) rfl st54 rfl (by kernel_rfl)) rfl ?_
  refine L rfl rfl (lt_build (cs := [.pv (.int .i64 0), .pv (.int .i64 1), .pv (.int .i64 6), .pv (.int .i64 1), .pv (.int .i64 0), .pv (.int .i64 0), .pv (.int .i64 0), .pv (.int .i64 0), .pv (.int .i64 0), .emp, .pv (.int .i64 0), .pv (.int .i64 0), .pv (.int .i64 0), .pv (.int .i64 0), .emp, .pv (.int .i64 0), .pv (.int .i64 0), .pv (.int .i64 0), .emp]) rfl st54 rfl (by kernel_rfl)) rfl ?_
  refine C rfl rfl (fl_slice (cs := [.pv (.int .i64 0), .pv (.int .i64 1), .pv (.int .i64 0), .pv (.int .i64 0), .pv (.int .i64 0), .pv (.int .i64 0), .pv (.int .i64 0), .pv (.int .i64 0), .pv (.int .i64 0), .emp, .pv (.int .i64 0), .pv (.int .i64 0), .pv (.int .i64 0), .pv (.int .i64 0), .emp, .pv (.int .i64 0), .pv (.int .i64 0), .pv (.int .i64 0), .emp, .pv (.int .i64 0), .pv (.int .i64 1), .pv (.int .i64 6), .pv (.int .i64 1), .pv (.int .i64 0), .pv (.int .i64 0), .pv (.int .i64 0), .pv (.int .i64 0), .pv (.int .i64 0), .emp, .pv (.int .i64 0), .pv (.int .i64 0), .pv (.int .i64 0), .pv (.int .i64 0), .emp, .pv (.int .i64 0), .pv (.int .i64 0), .pv (.int .i64 0), .emp]) (pv := [.int .i64 0, .int .i64 1, .int .i64 0, .int .i64 0, .int .i64 0, .int .i64 0, .int .i64 0, .int .i64 0, .int .i64 0, .sl [], .int .i64 0, .int .i64 0, .int .i64 0, .int .i64 0, .sl [], .int .i64 0, .int .i64 0, .int .i64 0, .sl [], .int .i64 0, .int .i64 1, .int .i64 6, .int .i64 1, .int .i64 0, .int .i64 0, .int .i64 0, .int .i64 0, .int .i64 0, .sl [], .int .i64 0, .int .i64 0, .int .i64 0, .int .i64 0, .sl [], .int .i64 0, .int .i64 0, .int .i64 0, .sl []]) (List.map e_flow_Edge [(flow_Edge.mk 0 1 0 0 0 0 (check_Expr.mk 0 0 0 []) (check_Cond.mk 0 (check_Expr.mk 0 0 0 []) (check_Expr.mk 0 0 0 []))), (flow_Edge.mk 0 1 6 1 0 0 (check_Expr.mk 0 0 0 []) (check_Cond.mk 0 (check_Expr.mk 0 0 0 []) (check_Expr.mk 0 0 0 [])))]) rfl sl55 rfl rfl (by kernel_rfl) (by kernel_rfl) (by kernel_rfl) rfl rfl) rfl ?_
  refine R tbok 1 [5, 4, 3, 2] [(5, [.c (.pv (.sl (List.map e_flow_Edge [(flow_Edge.mk 0 1 0 0 0 0 (check_Expr.mk 0 0 0 []) (check_Cond.mk 0 (check_Expr.mk 0 0 0 []) (check_Expr.mk 0 0 0 []))), (flow_Edge.mk 0 1 6 1 0 0 (check_Expr.mk 0 0 0 []) (check_Cond.mk 0 (check_Expr.mk 0 0 0 []) (check_Expr.mk 0 0 0 [])))])))]), (4, [.c (.pv (.bool false))]), (3, [.c (.box 1 0)]), (2, [.c (.box 0 0)])] (by kernel_rfl) ?_
  refine ops_nil ?_
  refine then_ ?_
  refine seq_ ?_
  refine seq_ ?_
  refine region_ ?_
  refine R tbok 1 [6, 5, 4, 3, 2] [(6, [.c (.pv (.int .i64 0))]), (5, [.c (.pv (.sl (List.map e_flow_Edge [(flow_Edge.mk 0 1 0 0 0 0 (check_Expr.mk 0 0 0 []) (check_Cond.mk 0 (check_Expr.mk 0 0 0 []) (check_Expr.mk 0 0 0 []))), (flow_Edge.mk 0 1 6 1 0 0 (check_Expr.mk 0 0 0 []) (check_Cond.mk 0 (check_Expr.mk 0 0 0 []) (check_Expr.mk 0 0 0 [])))])))]), (4, [.c (.pv (.bool false))]), (3, [.c (.box 1 0)]), (2, [.c (.box 0 0)])] (by kernel_rfl) ?_
  refine ops_nil ?_
  refine then_ ?_
  refine lp_ (Qr := RW Tryz.prog GG Tryz.f4 0 r_l14_TransSkips o_l14_TransSkips) (l14_TransSkips_l1 a0 a1) (fun (x1 : Int) => (⟨113, 0, [(2, [.c (.box 0 0)]), (3, [.c (.box 1 0)]), (5, [.c (.pv (.sl (List.map e_flow_Edge [(flow_Edge.mk 0 1 0 0 0 0 (check_Expr.mk 0 0 0 []) (check_Cond.mk 0 (check_Expr.mk 0 0 0 []) (check_Expr.mk 0 0 0 []))), (flow_Edge.mk 0 1 6 1 0 0 (check_Expr.mk 0 0 0 []) (check_Cond.mk 0 (check_Expr.mk 0 0 0 []) (check_Expr.mk 0 0 0 [])))])))]), (6, [.c (.pv (.int .i64 x1))])], [some (.box true 44 [.pv (.int .i32 (a0 0)), .pv (.int .i32 (a0 1))]), some (.box true 47 [.pv (.sl (List.map e_i32 a1.Vars)), .pv (.int .i64 a1.Counts), .pv (.int .u8 a1.Rules)])]⟩ : Sx)) (fun (j1 : Unit) => (⟨113, 0, [], []⟩ : Sx)) 0 RW.only h wT ?_ (fun x1 o h => ?_) (fun r h s' hs => ?_) (fun j1 h => ?_)
  · refine w_sub (env' := [(2, [.c (.box 0 0)]), (3, [.c (.box 1 0)]), (5, [.c (.pv (.sl (List.map e_flow_Edge [(flow_Edge.mk 0 1 0 0 0 0 (check_Expr.mk 0 0 0 []) (check_Cond.mk 0 (check_Expr.mk 0 0 0 []) (check_Expr.mk 0 0 0 []))), (flow_Edge.mk 0 1 6 1 0 0 (check_Expr.mk 0 0 0 []) (check_Cond.mk 0 (check_Expr.mk 0 0 0 []) (check_Expr.mk 0 0 0 [])))])))]), (6, [.c (.pv (.int .i64 0))])]) (sub_cons rfl (sub_cons rfl (sub_cons rfl (sub_cons rfl sub_nil)))) ?_
    exact wkE (by kernel_rfl) (by kernel_rfl)
  · unfold l14_TransSkips_l1 at h
    refine seq_ ?_
    refine seq_ ?_
    refine region_ ?_
    refine R tbok 2 [16, 2, 3, 5, 6] [(16, [.c (.pv (.bool (decide (x1 < 2))))]), (2, [.c (.box 0 0)]), (3, [.c (.box 1 0)]), (5, [.c (.pv (.sl (List.map e_flow_Edge [(flow_Edge.mk 0 1 0 0 0 0 (check_Expr.mk 0 0 0 []) (check_Cond.mk 0 (check_Expr.mk 0 0 0 []) (check_Expr.mk 0 0 0 []))), (flow_Edge.mk 0 1 6 1 0 0 (check_Expr.mk 0 0 0 []) (check_Cond.mk 0 (check_Expr.mk 0 0 0 []) (check_Expr.mk 0 0 0 [])))])))]), (6, [.c (.pv (.int .i64 x1))])] (by kernel_rfl) ?_
    refine ops_nil ?_
    refine then_ ?_
    refine cond_ (b := (decide (x1 < 2))) rfl (fun k1 => ?_) (fun k1 => ?_)
    · have h := iteT h k1
      refine skip_ ?_
      refine then_ ?_
      refine seq_ ?_
      refine block_ ?_
      refine seq_ ?_
      refine region_ ?_
      refine R tbok 4 [22, 20, 19, 2, 3, 5, 6] [(22, [.c (.pv (.int .i64 (IntKind.i64.wrap (x1 + 1))))]), (20, [.c (.pv (.int .i64 x1))]), (19, [.c (.pv (.sl (List.map e_flow_Edge [(flow_Edge.mk 0 1 0 0 0 0 (check_Expr.mk 0 0 0 []) (check_Cond.mk 0 (check_Expr.mk 0 0 0 []) (check_Expr.mk 0 0 0 []))), (flow_Edge.mk 0 1 6 1 0 0 (check_Expr.mk 0 0 0 []) (check_Cond.mk 0 (check_Expr.mk 0 0 0 []) (check_Expr.mk 0 0 0 [])))])))]), (2, [.c (.box 0 0)]), (3, [.c (.box 1 0)]), (5, [.c (.pv (.sl (List.map e_flow_Edge [(flow_Edge.mk 0 1 0 0 0 0 (check_Expr.mk 0 0 0 []) (check_Cond.mk 0 (check_Expr.mk 0 0 0 []) (check_Expr.mk 0 0 0 []))), (flow_Edge.mk 0 1 6 1 0 0 (check_Expr.mk 0 0 0 []) (check_Cond.mk 0 (check_Expr.mk 0 0 0 []) (check_Expr.mk 0 0 0 [])))])))]), (6, [.c (.pv (.int .i64 x1))])] (by kernel_rfl) ?_
      obtain ⟨v1, k2, h⟩ := bindE h
      refine L rfl rfl (slice_sl (e := e_flow_Edge) rfl u55 ty54 rfl (bd1 rfl) (bd1 rfl) k2 (fun _ => rfl)) rfl ?_
      refine L rfl rfl (lt_build (cs := [.pv (.int .i64 2), .pv (.sl (List.map e_flow_Edge v1)), .emp]) rfl st57 rfl (by kernel_rfl)) rfl ?_
      refine C rfl rfl (fl_slice (List.map e_flow_Graph [(flow_Graph.mk 2 v1 [])]) rfl sl38 rfl rfl rfl rfl rfl rfl rfl) rfl ?_
      refine C rfl rfl (fl_slice (List.map e_i64 [2]) rfl sl29 rfl rfl rfl rfl rfl rfl rfl) rfl ?_
      refine L rfl rfl (lt_build (cs := [.emp, .pv (.sl (List.map e_flow_Graph [(flow_Graph.mk 2 v1 [])])), .pv (.sl (List.map e_i64 [2]))]) rfl st40 rfl (by kernel_rfl)) rfl ?_
      refine B rfl rfl (bir_alloc rfl z40 rfl rfl) rfl rfl (.s (.s .z)) ?_
      refine S rfl rfl rfl ty40 (by decide) rfl rfl rfl rfl rfl (.all rfl) (.s (.s .z)) ?_
      refine ops_nil ?_
      refine then_ ?_
      refine seq_ ?_
      refine region_ ?_
      refine R tbok 1 [28, 7, 2, 3, 5, 6] [(28, [.agg [.emp, .pv (.sl (List.map e_flow_Graph [(flow_Graph.mk 2 v1 [])])), .pv (.sl (List.map e_i64 [2]))]]), (7, [.c (.box 2 0)]), (2, [.c (.box 0 0)]), (3, [.c (.box 1 0)]), (5, [.c (.pv (.sl (List.map e_flow_Edge [(flow_Edge.mk 0 1 0 0 0 0 (check_Expr.mk 0 0 0 []) (check_Cond.mk 0 (check_Expr.mk 0 0 0 []) (check_Expr.mk 0 0 0 []))), (flow_Edge.mk 0 1 6 1 0 0 (check_Expr.mk 0 0 0 []) (check_Cond.mk 0 (check_Expr.mk 0 0 0 []) (check_Expr.mk 0 0 0 [])))])))]), (6, [.c (.pv (.int .i64 x1))])] (by kernel_rfl) ?_
      obtain ⟨v2, k3, h⟩ := bindE h
      refine C rfl rfl (fl_call rfl Tryz.call14 rfl (by kernel_rfl) (by kernel_rfl) (trans_Start_meets k3)) rfl ?_
      refine B rfl rfl (bir_alloc rfl z67 rfl rfl) rfl rfl (.s (.s (.s .z))) ?_
      refine S rfl rfl rfl ty67 (by decide) rfl rfl rfl rfl rfl (.all rfl) (.s (.s (.s .z))) ?_
      refine ops_nil ?_
      refine then_ ?_
      refine seq_ ?_
      refine drawn_ mixed ?_
      refine dl (t := 30) 0 [.c (.box 0 0)] rfl ?_
      refine dl (t := 31) 1 [.c (.pv (.int .i32 (a0 0)))] rfl ?_
      refine dl (t := 32) 2 [.c (.pv (.int .i64 (IntKind.i64.wrap (a0 0))))] rfl ?_
      refine dl (t := 33) 3 [.c (.box 0 1)] rfl ?_
      refine dl (t := 34) 4 [.c (.pv (.int .i32 (a0 1)))] rfl ?_
      refine dl (t := 35) 5 [.c (.pv (.int .i64 (IntKind.i64.wrap (a0 1))))] rfl ?_
      refine dl (t := 36) 6 [.c (.pv (.sl (List.map e_i64 [(IntKind.i64.wrap (a0 0)), (IntKind.i64.wrap (a0 1))])))] rfl ?_
      obtain ⟨v4, k5, h⟩ := bindE h
      refine dl (t := 37) 7 [.agg (bs (e_num_Num v4))] rfl ?_
      refine dl (t := 38) 8 [.c (.box 1 1)] rfl ?_
      refine dl (t := 39) 9 [.c (.pv (.int .i64 a1.Counts))] rfl ?_
      obtain ⟨v5, k6, h⟩ := bindE h
      refine dl (t := 40) 10 [.c (.pv (.int .i64 v5))] rfl ?_
      refine dl (t := 41) 11 [.c (.pv (.sl (List.map e_i64 [0, v5])))] rfl ?_
      obtain ⟨v7, k8, h⟩ := bindE h
      refine dl (t := 42) 12 [.agg (bs (e_num_Num v7))] rfl ?_
      obtain ⟨v9, k10, h⟩ := bindE h
      refine dl (t := 43) 13 [.agg (bs (e_num_Num v9))] rfl ?_
      refine dl (t := 44) 14 [.c (.box 3 0)] rfl ?_
      obtain ⟨v10, k11, h⟩ := bindE h
      refine d_store (cs' := (bs (e_trans_State v10))) (wm [0, 1, 3, 0, 8, 24, 63, 127, 0, 256, 768, 1792, 4095, 8191, 16383, 32767]) 15 rfl (by kernel_rfl) (by kernel_rfl) (by kernel_rfl) (by kernel_rfl) (by kernel_rfl) (gi0 rfl) (oE tbok [] 1 (by kernel_rfl) (oL [] rfl (by kernel_rfl) (fl_call rfl Tryz.call15 rfl (by kernel_rfl) (by kernel_rfl) (num_Join_meets k10)) (oL [] rfl (by kernel_rfl) (fl_call rfl Tryz.call16 rfl (by kernel_rfl) (by kernel_rfl) (l14_row_meets k8)) (oL [] rfl (by kernel_rfl) (fl_slice (List.map e_i64 [0, v5]) rfl sl29 rfl rfl rfl rfl rfl rfl rfl) (oL [] rfl (by kernel_rfl) (fl_lt (rem_ rfl rfl rfl k6)) (oE tbok [] 2 (by kernel_rfl) (oL [] rfl (by kernel_rfl) (fl_call rfl Tryz.call16 rfl (by kernel_rfl) (by kernel_rfl) (l14_row_meets k5)) (oL [] rfl (by kernel_rfl) (fl_slice (List.map e_i64 [(IntKind.i64.wrap (a0 0)), (IntKind.i64.wrap (a0 1))]) rfl sl29 rfl rfl rfl rfl rfl rfl rfl) (oE tbok [] 2 (by kernel_rfl) (oL [] rfl (by kernel_rfl) (fl_lt (ia_box rfl u44 ty21 rfl rfl rfl 1 rfl)) (oE tbok [] 2 (by kernel_rfl) (oL [] rfl (by kernel_rfl) (fl_lt (ia_box rfl u44 ty21 rfl rfl rfl 0 rfl)) trivial)))))))))))) rfl rfl ty64 rfl rfl rfl rfl rfl rfl (by rw [← retE k11]; kernel_rfl) (SetAt.eq (.s (.s (.s .z)))) ?_
      refine d_endS (env2 := [(8, [.c (.box 3 0)]), (7, [.c (.box 2 0)]), (2, [.c (.box 0 0)]), (3, [.c (.box 1 0)]), (5, [.c (.pv (.sl (List.map e_flow_Edge [(flow_Edge.mk 0 1 0 0 0 0 (check_Expr.mk 0 0 0 []) (check_Cond.mk 0 (check_Expr.mk 0 0 0 []) (check_Expr.mk 0 0 0 []))), (flow_Edge.mk 0 1 6 1 0 0 (check_Expr.mk 0 0 0 []) (check_Cond.mk 0 (check_Expr.mk 0 0 0 []) (check_Expr.mk 0 0 0 [])))])))]), (6, [.c (.pv (.int .i64 x1))])]) (wm [0, 1, 3, 0, 8, 24, 63, 127, 0, 256, 768, 1792, 4095, 8191, 16383, 32767]) (by kernel_rfl) (by kernel_rfl) (by kernel_rfl) (oN 16 (by kernel_rfl) trivial) (sub_cons rfl (sub_cons rfl (sub_cons rfl (sub_cons rfl (sub_cons rfl (sub_cons rfl sub_nil)))))) wT ?_
      refine then_ ?_
      refine seq_ ?_
      refine region_ ?_
      refine R tbok 1 [46, 8, 2, 3, 5, 6] [(46, [.agg [.emp, .pv (.sl (List.map e_flow_Graph [(flow_Graph.mk 2 v1 [])])), .pv (.sl (List.map e_i64 [2]))]]), (8, [.c (.box 3 0)]), (2, [.c (.box 0 0)]), (3, [.c (.box 1 0)]), (5, [.c (.pv (.sl (List.map e_flow_Edge [(flow_Edge.mk 0 1 0 0 0 0 (check_Expr.mk 0 0 0 []) (check_Cond.mk 0 (check_Expr.mk 0 0 0 []) (check_Expr.mk 0 0 0 []))), (flow_Edge.mk 0 1 6 1 0 0 (check_Expr.mk 0 0 0 []) (check_Cond.mk 0 (check_Expr.mk 0 0 0 []) (check_Expr.mk 0 0 0 [])))])))]), (6, [.c (.pv (.int .i64 x1))])] (by kernel_rfl) ?_
      refine L rfl rfl (lt_build (cs := [.emp, .pv (.sl (List.map e_flow_Graph [(flow_Graph.mk 2 v1 [])])), .pv (.sl (List.map e_i64 [2])), .emp, .emp]) rfl st79 rfl (by kernel_rfl)) rfl ?_
      refine R tbok 1 [48, 47, 8, 2, 3, 5, 6] [(48, [.agg (bs (e_trans_State v10))]), (47, [.agg [.emp, .pv (.sl (List.map e_flow_Graph [(flow_Graph.mk 2 v1 [])])), .pv (.sl (List.map e_i64 [2])), .emp, .emp]]), (8, [.c (.box 3 0)]), (2, [.c (.box 0 0)]), (3, [.c (.box 1 0)]), (5, [.c (.pv (.sl (List.map e_flow_Edge [(flow_Edge.mk 0 1 0 0 0 0 (check_Expr.mk 0 0 0 []) (check_Cond.mk 0 (check_Expr.mk 0 0 0 []) (check_Expr.mk 0 0 0 []))), (flow_Edge.mk 0 1 6 1 0 0 (check_Expr.mk 0 0 0 []) (check_Cond.mk 0 (check_Expr.mk 0 0 0 []) (check_Expr.mk 0 0 0 [])))])))]), (6, [.c (.pv (.int .i64 x1))])] (by kernel_rfl) ?_
      obtain ⟨v11, k12, h⟩ := bindE h
      refine C rfl rfl (fl_call rfl Tryz.call17 rfl (by kernel_rfl) (by kernel_rfl) (trans_Step_meets k12)) rfl ?_
      refine R tbok 4 [52, 51, 50, 8, 2, 3, 5, 6] [(52, [.c (.pv (.sl (List.map e_i64 v11.2.2)))]), (51, [.agg [.pv (.int .i64 v11.2.1.Chan), .pv (.int .i64 v11.2.1.Tag), .pv (.int .i64 v11.2.1.Vals.Lo), .pv (.int .i64 v11.2.1.Vals.Hi)]]), (50, [.agg (bs (e_trans_State v11.1))]), (8, [.c (.box 3 0)]), (2, [.c (.box 0 0)]), (3, [.c (.box 1 0)]), (5, [.c (.pv (.sl (List.map e_flow_Edge [(flow_Edge.mk 0 1 0 0 0 0 (check_Expr.mk 0 0 0 []) (check_Cond.mk 0 (check_Expr.mk 0 0 0 []) (check_Expr.mk 0 0 0 []))), (flow_Edge.mk 0 1 6 1 0 0 (check_Expr.mk 0 0 0 []) (check_Cond.mk 0 (check_Expr.mk 0 0 0 []) (check_Expr.mk 0 0 0 [])))])))]), (6, [.c (.pv (.int .i64 x1))])] (by kernel_rfl) ?_
      refine B rfl rfl (bir_alloc rfl z67 rfl rfl) rfl rfl (.s (.s (.s (.s .z)))) ?_
      refine B rfl rfl (bir_alloc rfl z74 rfl rfl) rfl rfl (.s (.s (.s (.s (.s .z))))) ?_
      refine S rfl rfl rfl ty67 (by decide) rfl rfl rfl rfl rfl (.all rfl) (.s (.s (.s (.s .z)))) ?_
      refine S rfl rfl rfl ty74 (by decide) rfl rfl rfl rfl rfl (.all rfl) (.s (.s (.s (.s (.s .z))))) ?_
      refine R tbok 1 [11, 10, 9, 8, 2, 3, 5, 6] [(11, [.c (.pv (.sl (List.map e_i64 v11.2.2)))]), (10, [.c (.box 5 0)]), (9, [.c (.box 4 0)]), (8, [.c (.box 3 0)]), (2, [.c (.box 0 0)]), (3, [.c (.box 1 0)]), (5, [.c (.pv (.sl (List.map e_flow_Edge [(flow_Edge.mk 0 1 0 0 0 0 (check_Expr.mk 0 0 0 []) (check_Cond.mk 0 (check_Expr.mk 0 0 0 []) (check_Expr.mk 0 0 0 []))), (flow_Edge.mk 0 1 6 1 0 0 (check_Expr.mk 0 0 0 []) (check_Cond.mk 0 (check_Expr.mk 0 0 0 []) (check_Expr.mk 0 0 0 [])))])))]), (6, [.c (.pv (.int .i64 x1))])] (by kernel_rfl) ?_
      refine ops_nil ?_
      refine then_ ?_
      refine seq_ ?_
      refine seq_ ?_
      refine jn_ (fun (j2 : Bool) => (⟨113, 0, [(2, [.c (.box 0 0)]), (3, [.c (.box 1 0)]), (5, [.c (.pv (.sl (List.map e_flow_Edge [(flow_Edge.mk 0 1 0 0 0 0 (check_Expr.mk 0 0 0 []) (check_Cond.mk 0 (check_Expr.mk 0 0 0 []) (check_Expr.mk 0 0 0 []))), (flow_Edge.mk 0 1 6 1 0 0 (check_Expr.mk 0 0 0 []) (check_Cond.mk 0 (check_Expr.mk 0 0 0 []) (check_Expr.mk 0 0 0 [])))])))]), (6, [.c (.pv (.int .i64 x1))]), (8, [.c (.box 3 0)]), (9, [.c (.box 4 0)]), (84, [.c (.pv (.bool j2))])], [some (.box true 44 [.pv (.int .i32 (a0 0)), .pv (.int .i32 (a0 1))]), some (.box true 47 [.pv (.sl (List.map e_i32 a1.Vars)), .pv (.int .i64 a1.Counts), .pv (.int .u8 a1.Rules)]), none, some (.box true 67 (bs (e_trans_State v10))), some (.box true 67 (bs (e_trans_State v11.1)))]⟩ : Sx)) h wT (fun o h => ?_) (fun j2 h => ?_)
      · refine drawn_ mixed ?_
        refine dl (t := 53) 0 [.agg (bs (e_trans_State v11.1))] rfl ?_
        obtain ⟨v13, k14, h⟩ := bindE h
        refine dl (t := 54) 1 [.c (.pv (.bool v13))] rfl ?_
        refine dl (t := 55) 2 [.c (.pv (.bool v13))] rfl ?_
        refine (tf v13).elim (fun k15 => ?_) (fun k15 => ?_)
        · have h := iteT h k15
          refine ds (t := 56) 3 rfl ?_
          refine ds (t := 57) 4 rfl ?_
          refine ds (t := 58) 5 rfl ?_
          refine dl (t := 59) 6 [.c (.pv (.bool true))] rfl ?_
          refine dl (t := 60) 7 [.c (.pv (.bool true))] rfl ?_
          refine ds (t := 61) 8 rfl ?_
          refine ds (t := 62) 9 rfl ?_
          refine ds (t := 63) 10 rfl ?_
          refine dl (t := 64) 11 [.c (.pv (.bool true))] rfl ?_
          refine dl (t := 65) 12 [.c (.pv (.bool true))] rfl ?_
          refine ds (t := 66) 13 rfl ?_
          refine ds (t := 67) 14 rfl ?_
          refine ds (t := 68) 15 rfl ?_
          refine ds (t := 69) 16 rfl ?_
          refine ds (t := 70) 17 rfl ?_
          refine dl (t := 71) 18 [.c (.pv (.bool true))] rfl ?_
          refine dl (t := 72) 19 [.c (.pv (.bool true))] rfl ?_
          refine ds (t := 73) 20 rfl ?_
          refine ds (t := 74) 21 rfl ?_
          refine ds (t := 75) 22 rfl ?_
          refine ds (t := 76) 23 rfl ?_
          refine ds (t := 77) 24 rfl ?_
          refine ds (t := 78) 25 rfl ?_
          refine ds (t := 79) 26 rfl ?_
          refine ds (t := 80) 27 rfl ?_
          refine ds (t := 81) 28 rfl ?_
          refine ds (t := 82) 29 rfl ?_
          refine ds (t := 83) 30 rfl ?_
          refine dl (t := 84) 31 [.c (.pv (.bool true))] rfl ?_
          refine d_endS (env2 := [(84, [.c (.pv (.bool true))]), (9, [.c (.box 4 0)]), (8, [.c (.box 3 0)]), (2, [.c (.box 0 0)]), (3, [.c (.box 1 0)]), (5, [.c (.pv (.sl (List.map e_flow_Edge [(flow_Edge.mk 0 1 0 0 0 0 (check_Expr.mk 0 0 0 []) (check_Cond.mk 0 (check_Expr.mk 0 0 0 []) (check_Expr.mk 0 0 0 []))), (flow_Edge.mk 0 1 6 1 0 0 (check_Expr.mk 0 0 0 []) (check_Cond.mk 0 (check_Expr.mk 0 0 0 []) (check_Expr.mk 0 0 0 [])))])))]), (6, [.c (.pv (.int .i64 x1))])]) (wm [0, 1, 3, 7, 15, 31, 63, 127, 255, 511, 1023, 2047, 4095, 8191, 16383, 32767, 65535, 131071, 262143, 524287, 1048575, 2097151, 4194303, 8388607, 16777215, 1048575, 34603007, 101711871, 235929599, 504365055, 1073741823, 2147483647]) (by kernel_rfl) (by kernel_rfl) (by kernel_rfl) (oL [] rfl (by kernel_rfl) (fl_lt (lt_pickT rfl rfl rfl rfl)) (owF (by kernel_rfl) (fo_s [] rfl rfl rfl (by kernel_rfl) (by kernel_rfl) (by kernel_rfl) (gi1 rfl rfl rfl (beF rfl))) (owF (by kernel_rfl) (fo_s [] rfl rfl rfl (by kernel_rfl) (by kernel_rfl) (by kernel_rfl) (gi1 rfl rfl rfl (beF rfl))) (owF (by kernel_rfl) (fo_s [] rfl rfl rfl (by kernel_rfl) (by kernel_rfl) (by kernel_rfl) (gi1 rfl rfl rfl (beF rfl))) (owF (by kernel_rfl) (fo_s [] rfl rfl rfl (by kernel_rfl) (by kernel_rfl) (by kernel_rfl) (gi1 rfl rfl rfl (beF rfl))) (owF (by kernel_rfl) (fo_s [] rfl rfl rfl (by kernel_rfl) (by kernel_rfl) (by kernel_rfl) (gi1 rfl rfl rfl (beF rfl))) (owF (by kernel_rfl) (fo_s [] rfl rfl rfl (by kernel_rfl) (by kernel_rfl) (by kernel_rfl) (gi1 rfl rfl rfl (beF rfl))) (owF (by kernel_rfl) (fo_s [] rfl rfl rfl (by kernel_rfl) (by kernel_rfl) (by kernel_rfl) (gi1 rfl rfl rfl (beF rfl))) (owF (by kernel_rfl) (fo_s [] rfl rfl rfl (by kernel_rfl) (by kernel_rfl) (by kernel_rfl) (gi1 rfl rfl rfl (beF rfl))) (owF (by kernel_rfl) (fo_s [] rfl rfl rfl (by kernel_rfl) (by kernel_rfl) (by kernel_rfl) (gi1 rfl rfl rfl (beF rfl))) (owF (by kernel_rfl) (fo_s [] rfl rfl rfl (by kernel_rfl) (by kernel_rfl) (by kernel_rfl) (gi1 rfl rfl rfl (beF rfl))) (owF (by kernel_rfl) (fo_s [] rfl rfl rfl (by kernel_rfl) (by kernel_rfl) (by kernel_rfl) (gi1 rfl rfl rfl (beF rfl))) (oE tbok [] 1 (by kernel_rfl) (oL [] rfl (by kernel_rfl) (fl_lt (lt_pickT rfl rfl rfl rfl)) (owF (by kernel_rfl) (fo_s [] rfl rfl rfl (by kernel_rfl) (by kernel_rfl) (by kernel_rfl) (gi1 rfl rfl rfl (beF rfl))) (owF (by kernel_rfl) (fo_s [] rfl rfl rfl (by kernel_rfl) (by kernel_rfl) (by kernel_rfl) (gi1 rfl rfl rfl (beF rfl))) (owF (by kernel_rfl) (fo_s [] rfl rfl rfl (by kernel_rfl) (by kernel_rfl) (by kernel_rfl) (gi1 rfl rfl rfl (beF rfl))) (owF (by kernel_rfl) (fo_s [] rfl rfl rfl (by kernel_rfl) (by kernel_rfl) (by kernel_rfl) (gi1 rfl rfl rfl (beF rfl))) (owF (by kernel_rfl) (fo_s [] rfl rfl rfl (by kernel_rfl) (by kernel_rfl) (by kernel_rfl) (gi1 rfl rfl rfl (beF rfl))) (oE tbok [] 1 (by kernel_rfl) (oL [] rfl (by kernel_rfl) (fl_lt (lt_pickT rfl rfl rfl rfl)) (owF (by kernel_rfl) (fo_s [] rfl rfl rfl (by kernel_rfl) (by kernel_rfl) (by kernel_rfl) (gi1 rfl rfl rfl (beF rfl))) (owF (by kernel_rfl) (fo_s [] rfl rfl rfl (by kernel_rfl) (by kernel_rfl) (by kernel_rfl) (gi1 rfl rfl rfl (beF rfl))) (owF (by kernel_rfl) (fo_s [] rfl rfl rfl (by kernel_rfl) (by kernel_rfl) (by kernel_rfl) (gi1 rfl rfl rfl (beF rfl))) (oE tbok [] 1 (by kernel_rfl) (oL [] rfl (by kernel_rfl) (fl_lt (lt_pickT rfl rfl k15 rfl)) (owF (by kernel_rfl) (fo_s [] rfl rfl rfl (by kernel_rfl) (by kernel_rfl) (by kernel_rfl) (gi1 rfl rfl rfl (beF k15))) (owF (by kernel_rfl) (fo_s [] rfl rfl rfl (by kernel_rfl) (by kernel_rfl) (by kernel_rfl) (gi1 rfl rfl rfl (beF k15))) (owF (by kernel_rfl) (fo_s [] rfl rfl rfl (by kernel_rfl) (by kernel_rfl) (by kernel_rfl) (gi1 rfl rfl rfl (beF k15))) (oE tbok [] 1 (by kernel_rfl) (oL [] rfl (by kernel_rfl) (fl_call rfl Tryz.call18 rfl (by kernel_rfl) (by kernel_rfl) (trans_Empty_meets k14)) (oE tbok [] 1 (by kernel_rfl) trivial)))))))))))))))))))))))))))))))) (sub_cons rfl (sub_cons rfl (sub_cons rfl (sub_cons rfl (sub_cons rfl (sub_cons rfl (sub_cons rfl sub_nil))))))) wM ?_
          obtain rfl := retE h
          refine mN ?_
          refine w_sub (env' := [(2, [.c (.box 0 0)]), (3, [.c (.box 1 0)]), (5, [.c (.pv (.sl (List.map e_flow_Edge [(flow_Edge.mk 0 1 0 0 0 0 (check_Expr.mk 0 0 0 []) (check_Cond.mk 0 (check_Expr.mk 0 0 0 []) (check_Expr.mk 0 0 0 []))), (flow_Edge.mk 0 1 6 1 0 0 (check_Expr.mk 0 0 0 []) (check_Cond.mk 0 (check_Expr.mk 0 0 0 []) (check_Expr.mk 0 0 0 [])))])))]), (6, [.c (.pv (.int .i64 x1))]), (8, [.c (.box 3 0)]), (9, [.c (.box 4 0)]), (84, [.c (.pv (.bool true))])]) (sub_cons rfl (sub_cons rfl (sub_cons rfl (sub_cons rfl (sub_cons rfl (sub_cons rfl (sub_cons rfl sub_nil))))))) ?_
          refine w_none 2 (.s (.s .z)) ?_
          refine w_cut 5 rfl rfl rfl rfl ?_
          exact wkE (by kernel_rfl) (by kernel_rfl)
        · have h := iteF h k15
          refine dl (t := 56) 3 [.c (.pv (.sl (List.map e_i64 v11.2.2)))] rfl ?_
          refine dl (t := 57) 4 [.c (.pv (.int .i64 (v11.2.2.length : Int)))] rfl ?_
          refine dl (t := 58) 5 [.c (.pv (.bool ((v11.2.2.length : Int) != 0)))] rfl ?_
          refine dl (t := 59) 6 [.c (.pv (.bool ((v11.2.2.length : Int) != 0)))] rfl ?_
          refine dl (t := 60) 7 [.c (.pv (.bool ((v11.2.2.length : Int) != 0)))] rfl ?_
          refine (tf ((v11.2.2.length : Int) != 0)).elim (fun k16 => ?_) (fun k16 => ?_)
          · have h := iteT h k16
            refine ds (t := 61) 8 rfl ?_
            refine ds (t := 62) 9 rfl ?_
            refine ds (t := 63) 10 rfl ?_
            refine dl (t := 64) 11 [.c (.pv (.bool true))] rfl ?_
            refine dl (t := 65) 12 [.c (.pv (.bool true))] rfl ?_
            refine ds (t := 66) 13 rfl ?_
            refine ds (t := 67) 14 rfl ?_
            refine ds (t := 68) 15 rfl ?_
            refine ds (t := 69) 16 rfl ?_
            refine ds (t := 70) 17 rfl ?_
            refine dl (t := 71) 18 [.c (.pv (.bool true))] rfl ?_
            refine dl (t := 72) 19 [.c (.pv (.bool true))] rfl ?_
            refine ds (t := 73) 20 rfl ?_
            refine ds (t := 74) 21 rfl ?_
            refine ds (t := 75) 22 rfl ?_
            refine ds (t := 76) 23 rfl ?_
            refine ds (t := 77) 24 rfl ?_
            refine ds (t := 78) 25 rfl ?_
            refine ds (t := 79) 26 rfl ?_
            refine ds (t := 80) 27 rfl ?_
            refine ds (t := 81) 28 rfl ?_
            refine ds (t := 82) 29 rfl ?_
            refine ds (t := 83) 30 rfl ?_
            refine dl (t := 84) 31 [.c (.pv (.bool true))] rfl ?_
            refine d_endS (env2 := [(84, [.c (.pv (.bool true))]), (9, [.c (.box 4 0)]), (8, [.c (.box 3 0)]), (2, [.c (.box 0 0)]), (3, [.c (.box 1 0)]), (5, [.c (.pv (.sl (List.map e_flow_Edge [(flow_Edge.mk 0 1 0 0 0 0 (check_Expr.mk 0 0 0 []) (check_Cond.mk 0 (check_Expr.mk 0 0 0 []) (check_Expr.mk 0 0 0 []))), (flow_Edge.mk 0 1 6 1 0 0 (check_Expr.mk 0 0 0 []) (check_Cond.mk 0 (check_Expr.mk 0 0 0 []) (check_Expr.mk 0 0 0 [])))])))]), (6, [.c (.pv (.int .i64 x1))])]) (wm [0, 1, 3, 7, 15, 31, 63, 127, 255, 511, 1023, 2047, 4095, 8191, 16383, 32767, 65535, 131071, 262143, 524287, 1048575, 2097151, 4194303, 8388607, 16777215, 1048575, 34603007, 101711871, 235929599, 504365055, 1073741823, 2147483647]) (by kernel_rfl) (by kernel_rfl) (by kernel_rfl) (oL [] rfl (by kernel_rfl) (fl_lt (lt_pickT rfl rfl rfl rfl)) (owF (by kernel_rfl) (fo_s [] rfl rfl rfl (by kernel_rfl) (by kernel_rfl) (by kernel_rfl) (gi1 rfl rfl rfl (beF rfl))) (owF (by kernel_rfl) (fo_s [] rfl rfl rfl (by kernel_rfl) (by kernel_rfl) (by kernel_rfl) (gi1 rfl rfl rfl (beF rfl))) (owF (by kernel_rfl) (fo_s [] rfl rfl rfl (by kernel_rfl) (by kernel_rfl) (by kernel_rfl) (gi1 rfl rfl rfl (beF rfl))) (owF (by kernel_rfl) (fo_s [] rfl rfl rfl (by kernel_rfl) (by kernel_rfl) (by kernel_rfl) (gi1 rfl rfl rfl (beF rfl))) (owF (by kernel_rfl) (fo_s [] rfl rfl rfl (by kernel_rfl) (by kernel_rfl) (by kernel_rfl) (gi1 rfl rfl rfl (beF rfl))) (owF (by kernel_rfl) (fo_s [] rfl rfl rfl (by kernel_rfl) (by kernel_rfl) (by kernel_rfl) (gi1 rfl rfl rfl (beF rfl))) (owF (by kernel_rfl) (fo_s [] rfl rfl rfl (by kernel_rfl) (by kernel_rfl) (by kernel_rfl) (gi1 rfl rfl rfl (beF rfl))) (owF (by kernel_rfl) (fo_s [] rfl rfl rfl (by kernel_rfl) (by kernel_rfl) (by kernel_rfl) (gi1 rfl rfl rfl (beF rfl))) (owF (by kernel_rfl) (fo_s [] rfl rfl rfl (by kernel_rfl) (by kernel_rfl) (by kernel_rfl) (gi1 rfl rfl rfl (beF rfl))) (owF (by kernel_rfl) (fo_s [] rfl rfl rfl (by kernel_rfl) (by kernel_rfl) (by kernel_rfl) (gi1 rfl rfl rfl (beF rfl))) (owF (by kernel_rfl) (fo_s [] rfl rfl rfl (by kernel_rfl) (by kernel_rfl) (by kernel_rfl) (gi1 rfl rfl rfl (beF rfl))) (oE tbok [] 1 (by kernel_rfl) (oL [] rfl (by kernel_rfl) (fl_lt (lt_pickT rfl rfl rfl rfl)) (owF (by kernel_rfl) (fo_s [] rfl rfl rfl (by kernel_rfl) (by kernel_rfl) (by kernel_rfl) (gi1 rfl rfl rfl (beF rfl))) (owF (by kernel_rfl) (fo_s [] rfl rfl rfl (by kernel_rfl) (by kernel_rfl) (by kernel_rfl) (gi1 rfl rfl rfl (beF rfl))) (owF (by kernel_rfl) (fo_s [] rfl rfl rfl (by kernel_rfl) (by kernel_rfl) (by kernel_rfl) (gi1 rfl rfl rfl (beF rfl))) (owF (by kernel_rfl) (fo_s [] rfl rfl rfl (by kernel_rfl) (by kernel_rfl) (by kernel_rfl) (gi1 rfl rfl rfl (beF rfl))) (owF (by kernel_rfl) (fo_s [] rfl rfl rfl (by kernel_rfl) (by kernel_rfl) (by kernel_rfl) (gi1 rfl rfl rfl (beF rfl))) (oE tbok [] 1 (by kernel_rfl) (oL [] rfl (by kernel_rfl) (fl_lt (lt_pickT rfl rfl k16 rfl)) (owF (by kernel_rfl) (fo_s [] rfl rfl rfl (by kernel_rfl) (by kernel_rfl) (by kernel_rfl) (gi1 rfl rfl rfl (beF k16))) (owF (by kernel_rfl) (fo_s [] rfl rfl rfl (by kernel_rfl) (by kernel_rfl) (by kernel_rfl) (gi1 rfl rfl rfl (beF k16))) (owF (by kernel_rfl) (fo_s [] rfl rfl rfl (by kernel_rfl) (by kernel_rfl) (by kernel_rfl) (gi1 rfl rfl rfl (beF k16))) (oE tbok [] 1 (by kernel_rfl) (oL [] rfl (by kernel_rfl) (fl_lt (lt_pickF rfl rfl k15 rfl)) (owF (by kernel_rfl) (fo_l [] rfl rfl rfl (by kernel_rfl) (by kernel_rfl) (by kernel_rfl) (gi1 rfl rfl rfl (beT k15)) (fl_lt (lt_int rfl rfl rfl rfl))) (owF (by kernel_rfl) (fo_l [] rfl rfl rfl (by kernel_rfl) (by kernel_rfl) (by kernel_rfl) (gi1 rfl rfl rfl (beT k15)) (fl_lt (len_sl (e := e_i64) rfl u29 rfl))) (owF (by kernel_rfl) (fo_l [] rfl rfl rfl (by kernel_rfl) (by kernel_rfl) (by kernel_rfl) (gi1 rfl rfl rfl (beT k15)) (fl_lt (lt_move rfl rfl))) (oE tbok [] 1 (by kernel_rfl) (oL [] rfl (by kernel_rfl) (fl_call rfl Tryz.call18 rfl (by kernel_rfl) (by kernel_rfl) (trans_Empty_meets k14)) (oE tbok [] 1 (by kernel_rfl) trivial)))))))))))))))))))))))))))))))) (sub_cons rfl (sub_cons rfl (sub_cons rfl (sub_cons rfl (sub_cons rfl (sub_cons rfl (sub_cons rfl sub_nil))))))) wM ?_
            obtain rfl := retE h
            refine mN ?_
            refine w_sub (env' := [(2, [.c (.box 0 0)]), (3, [.c (.box 1 0)]), (5, [.c (.pv (.sl (List.map e_flow_Edge [(flow_Edge.mk 0 1 0 0 0 0 (check_Expr.mk 0 0 0 []) (check_Cond.mk 0 (check_Expr.mk 0 0 0 []) (check_Expr.mk 0 0 0 []))), (flow_Edge.mk 0 1 6 1 0 0 (check_Expr.mk 0 0 0 []) (check_Cond.mk 0 (check_Expr.mk 0 0 0 []) (check_Expr.mk 0 0 0 [])))])))]), (6, [.c (.pv (.int .i64 x1))]), (8, [.c (.box 3 0)]), (9, [.c (.box 4 0)]), (84, [.c (.pv (.bool true))])]) (sub_cons rfl (sub_cons rfl (sub_cons rfl (sub_cons rfl (sub_cons rfl (sub_cons rfl (sub_cons rfl sub_nil))))))) ?_
            refine w_none 2 (.s (.s .z)) ?_
            refine w_cut 5 rfl rfl rfl rfl ?_
            exact wkE (by kernel_rfl) (by kernel_rfl)
          · have h := iteF h k16
            refine dl (t := 61) 8 [.c (.box 5 0)] rfl ?_
            refine dl (t := 62) 9 [.c (.pv (.int .i64 v11.2.1.Chan))] rfl ?_
            refine dl (t := 63) 10 [.c (.pv (.bool (v11.2.1.Chan != (-1))))] rfl ?_
            refine dl (t := 64) 11 [.c (.pv (.bool (v11.2.1.Chan != (-1))))] rfl ?_
            refine dl (t := 65) 12 [.c (.pv (.bool (v11.2.1.Chan != (-1))))] rfl ?_
            refine (tf (v11.2.1.Chan != (-1))).elim (fun k17 => ?_) (fun k17 => ?_)
            · have h := iteT h k17
              refine ds (t := 66) 13 rfl ?_
              refine ds (t := 67) 14 rfl ?_
              refine ds (t := 68) 15 rfl ?_
              refine ds (t := 69) 16 rfl ?_
              refine ds (t := 70) 17 rfl ?_
              refine dl (t := 71) 18 [.c (.pv (.bool true))] rfl ?_
              refine dl (t := 72) 19 [.c (.pv (.bool true))] rfl ?_
              refine ds (t := 73) 20 rfl ?_
              refine ds (t := 74) 21 rfl ?_
              refine ds (t := 75) 22 rfl ?_
              refine ds (t := 76) 23 rfl ?_
              refine ds (t := 77) 24 rfl ?_
              refine ds (t := 78) 25 rfl ?_
              refine ds (t := 79) 26 rfl ?_
              refine ds (t := 80) 27 rfl ?_
              refine ds (t := 81) 28 rfl ?_
              refine ds (t := 82) 29 rfl ?_
              refine ds (t := 83) 30 rfl ?_
              refine dl (t := 84) 31 [.c (.pv (.bool true))] rfl ?_
              refine d_endS (env2 := [(84, [.c (.pv (.bool true))]), (9, [.c (.box 4 0)]), (8, [.c (.box 3 0)]), (2, [.c (.box 0 0)]), (3, [.c (.box 1 0)]), (5, [.c (.pv (.sl (List.map e_flow_Edge [(flow_Edge.mk 0 1 0 0 0 0 (check_Expr.mk 0 0 0 []) (check_Cond.mk 0 (check_Expr.mk 0 0 0 []) (check_Expr.mk 0 0 0 []))), (flow_Edge.mk 0 1 6 1 0 0 (check_Expr.mk 0 0 0 []) (check_Cond.mk 0 (check_Expr.mk 0 0 0 []) (check_Expr.mk 0 0 0 [])))])))]), (6, [.c (.pv (.int .i64 x1))])]) (wm [0, 1, 3, 7, 15, 31, 63, 127, 255, 511, 1023, 2047, 4095, 8191, 16383, 32767, 65535, 131071, 262143, 524287, 1048575, 2097151, 4194303, 8388607, 16777215, 1048575, 34603007, 101711871, 235929599, 504365055, 1073741823, 2147483647]) (by kernel_rfl) (by kernel_rfl) (by kernel_rfl) (oL [] rfl (by kernel_rfl) (fl_lt (lt_pickT rfl rfl rfl rfl)) (owF (by kernel_rfl) (fo_s [] rfl rfl rfl (by kernel_rfl) (by kernel_rfl) (by kernel_rfl) (gi1 rfl rfl rfl (beF rfl))) (owF (by kernel_rfl) (fo_s [] rfl rfl rfl (by kernel_rfl) (by kernel_rfl) (by kernel_rfl) (gi1 rfl rfl rfl (beF rfl))) (owF (by kernel_rfl) (fo_s [] rfl rfl rfl (by kernel_rfl) (by kernel_rfl) (by kernel_rfl) (gi1 rfl rfl rfl (beF rfl))) (owF (by kernel_rfl) (fo_s [] rfl rfl rfl (by kernel_rfl) (by kernel_rfl) (by kernel_rfl) (gi1 rfl rfl rfl (beF rfl))) (owF (by kernel_rfl) (fo_s [] rfl rfl rfl (by kernel_rfl) (by kernel_rfl) (by kernel_rfl) (gi1 rfl rfl rfl (beF rfl))) (owF (by kernel_rfl) (fo_s [] rfl rfl rfl (by kernel_rfl) (by kernel_rfl) (by kernel_rfl) (gi1 rfl rfl rfl (beF rfl))) (owF (by kernel_rfl) (fo_s [] rfl rfl rfl (by kernel_rfl) (by kernel_rfl) (by kernel_rfl) (gi1 rfl rfl rfl (beF rfl))) (owF (by kernel_rfl) (fo_s [] rfl rfl rfl (by kernel_rfl) (by kernel_rfl) (by kernel_rfl) (gi1 rfl rfl rfl (beF rfl))) (owF (by kernel_rfl) (fo_s [] rfl rfl rfl (by kernel_rfl) (by kernel_rfl) (by kernel_rfl) (gi1 rfl rfl rfl (beF rfl))) (owF (by kernel_rfl) (fo_s [] rfl rfl rfl (by kernel_rfl) (by kernel_rfl) (by kernel_rfl) (gi1 rfl rfl rfl (beF rfl))) (owF (by kernel_rfl) (fo_s [] rfl rfl rfl (by kernel_rfl) (by kernel_rfl) (by kernel_rfl) (gi1 rfl rfl rfl (beF rfl))) (oE tbok [] 1 (by kernel_rfl) (oL [] rfl (by kernel_rfl) (fl_lt (lt_pickT rfl rfl k17 rfl)) (owF (by kernel_rfl) (fo_s [] rfl rfl rfl (by kernel_rfl) (by kernel_rfl) (by kernel_rfl) (gi1 rfl rfl rfl (beF k17))) (owF (by kernel_rfl) (fo_s [] rfl rfl rfl (by kernel_rfl) (by kernel_rfl) (by kernel_rfl) (gi1 rfl rfl rfl (beF k17))) (owF (by kernel_rfl) (fo_s [] rfl rfl rfl (by kernel_rfl) (by kernel_rfl) (by kernel_rfl) (gi1 rfl rfl rfl (beF k17))) (owF (by kernel_rfl) (fo_s [] rfl rfl rfl (by kernel_rfl) (by kernel_rfl) (by kernel_rfl) (gi1 rfl rfl rfl (beF k17))) (owF (by kernel_rfl) (fo_s [] rfl rfl rfl (by kernel_rfl) (by kernel_rfl) (by kernel_rfl) (gi1 rfl rfl rfl (beF k17))) (oE tbok [] 1 (by kernel_rfl) (oL [] rfl (by kernel_rfl) (fl_lt (lt_pickF rfl rfl k16 rfl)) (owF (by kernel_rfl) (fo_l [] rfl rfl rfl (by kernel_rfl) (by kernel_rfl) (by kernel_rfl) (gi1 rfl rfl rfl (beT k16)) (fl_lt (lt_int rfl rfl rfl rfl))) (owF (by kernel_rfl) (fo_l [] rfl rfl rfl (by kernel_rfl) (by kernel_rfl) (by kernel_rfl) (gi1 rfl rfl rfl (beT k16)) (fl_lt (lt_load_box rfl ty3 rfl rfl rfl))) (owF (by kernel_rfl) (fo_l [] rfl rfl rfl (by kernel_rfl) (by kernel_rfl) (by kernel_rfl) (gi1 rfl rfl rfl (beT k16)) (fl_lt (lt_fa_box rfl f74_0 ty3 (by decide) rfl))) (oE tbok [] 1 (by kernel_rfl) (oL [] rfl (by kernel_rfl) (fl_lt (lt_pickF rfl rfl k15 rfl)) (owF (by kernel_rfl) (fo_l [] rfl rfl rfl (by kernel_rfl) (by kernel_rfl) (by kernel_rfl) (gi1 rfl rfl rfl (beT k15)) (fl_lt (lt_int rfl rfl rfl rfl))) (owF (by kernel_rfl) (fo_l [] rfl rfl rfl (by kernel_rfl) (by kernel_rfl) (by kernel_rfl) (gi1 rfl rfl rfl (beT k15)) (fl_lt (len_sl (e := e_i64) rfl u29 rfl))) (owF (by kernel_rfl) (fo_l [] rfl rfl rfl (by kernel_rfl) (by kernel_rfl) (by kernel_rfl) (gi1 rfl rfl rfl (beT k15)) (fl_lt (lt_move rfl rfl))) (oE tbok [] 1 (by kernel_rfl) (oL [] rfl (by kernel_rfl) (fl_call rfl Tryz.call18 rfl (by kernel_rfl) (by kernel_rfl) (trans_Empty_meets k14)) (oE tbok [] 1 (by kernel_rfl) trivial)))))))))))))))))))))))))))))))) (sub_cons rfl (sub_cons rfl (sub_cons rfl (sub_cons rfl (sub_cons rfl (sub_cons rfl (sub_cons rfl sub_nil))))))) wM ?_
              obtain rfl := retE h
              refine mN ?_
              refine w_sub (env' := [(2, [.c (.box 0 0)]), (3, [.c (.box 1 0)]), (5, [.c (.pv (.sl (List.map e_flow_Edge [(flow_Edge.mk 0 1 0 0 0 0 (check_Expr.mk 0 0 0 []) (check_Cond.mk 0 (check_Expr.mk 0 0 0 []) (check_Expr.mk 0 0 0 []))), (flow_Edge.mk 0 1 6 1 0 0 (check_Expr.mk 0 0 0 []) (check_Cond.mk 0 (check_Expr.mk 0 0 0 []) (check_Expr.mk 0 0 0 [])))])))]), (6, [.c (.pv (.int .i64 x1))]), (8, [.c (.box 3 0)]), (9, [.c (.box 4 0)]), (84, [.c (.pv (.bool true))])]) (sub_cons rfl (sub_cons rfl (sub_cons rfl (sub_cons rfl (sub_cons rfl (sub_cons rfl (sub_cons rfl sub_nil))))))) ?_
              refine w_none 2 (.s (.s .z)) ?_
              refine w_cut 5 rfl rfl rfl rfl ?_
              exact wkE (by kernel_rfl) (by kernel_rfl)
            · have h := iteF h k17
              refine dl (t := 66) 13 [.c (.box 4 0)] rfl ?_
              refine dl (t := 67) 14 [.c (.box 4 1)] rfl ?_
              refine dl (t := 68) 15 [.c (.pv (.sl (List.map e_itv_Itv v11.1.N.I)))] rfl ?_
              refine dl (t := 69) 16 [.c (.pv (.int .i64 (v11.1.N.I.length : Int)))] rfl ?_
              refine dl (t := 70) 17 [.c (.pv (.bool ((v11.1.N.I.length : Int) != 2)))] rfl ?_
              refine dl (t := 71) 18 [.c (.pv (.bool ((v11.1.N.I.length : Int) != 2)))] rfl ?_
              refine dl (t := 72) 19 [.c (.pv (.bool ((v11.1.N.I.length : Int) != 2)))] rfl ?_
              refine (tf ((v11.1.N.I.length : Int) != 2)).elim (fun k18 => ?_) (fun k18 => ?_)
              · have h := iteT h k18
                refine ds (t := 73) 20 rfl ?_
                refine ds (t := 74) 21 rfl ?_
                refine ds (t := 75) 22 rfl ?_
                refine ds (t := 76) 23 rfl ?_
                refine ds (t := 77) 24 rfl ?_
                refine ds (t := 78) 25 rfl ?_
                refine ds (t := 79) 26 rfl ?_
                refine ds (t := 80) 27 rfl ?_
                refine ds (t := 81) 28 rfl ?_
                refine ds (t := 82) 29 rfl ?_
                refine ds (t := 83) 30 rfl ?_
                refine dl (t := 84) 31 [.c (.pv (.bool true))] rfl ?_
                refine d_endS (env2 := [(84, [.c (.pv (.bool true))]), (9, [.c (.box 4 0)]), (8, [.c (.box 3 0)]), (2, [.c (.box 0 0)]), (3, [.c (.box 1 0)]), (5, [.c (.pv (.sl (List.map e_flow_Edge [(flow_Edge.mk 0 1 0 0 0 0 (check_Expr.mk 0 0 0 []) (check_Cond.mk 0 (check_Expr.mk 0 0 0 []) (check_Expr.mk 0 0 0 []))), (flow_Edge.mk 0 1 6 1 0 0 (check_Expr.mk 0 0 0 []) (check_Cond.mk 0 (check_Expr.mk 0 0 0 []) (check_Expr.mk 0 0 0 [])))])))]), (6, [.c (.pv (.int .i64 x1))])]) (wm [0, 1, 3, 7, 15, 31, 63, 127, 255, 511, 1023, 2047, 4095, 8191, 16383, 32767, 65535, 131071, 262143, 524287, 1048575, 2097151, 4194303, 8388607, 16777215, 1048575, 34603007, 101711871, 235929599, 504365055, 1073741823, 2147483647]) (by kernel_rfl) (by kernel_rfl) (by kernel_rfl) (oL [] rfl (by kernel_rfl) (fl_lt (lt_pickT rfl rfl k18 rfl)) (owF (by kernel_rfl) (fo_s [] rfl rfl rfl (by kernel_rfl) (by kernel_rfl) (by kernel_rfl) (gi1 rfl rfl rfl (beF k18))) (owF (by kernel_rfl) (fo_s [] rfl rfl rfl (by kernel_rfl) (by kernel_rfl) (by kernel_rfl) (gi1 rfl rfl rfl (beF k18))) (owF (by kernel_rfl) (fo_s [] rfl rfl rfl (by kernel_rfl) (by kernel_rfl) (by kernel_rfl) (gi1 rfl rfl rfl (beF k18))) (owF (by kernel_rfl) (fo_s [] rfl rfl rfl (by kernel_rfl) (by kernel_rfl) (by kernel_rfl) (gi1 rfl rfl rfl (beF k18))) (owF (by kernel_rfl) (fo_s [] rfl rfl rfl (by kernel_rfl) (by kernel_rfl) (by kernel_rfl) (gi1 rfl rfl rfl (beF k18))) (owF (by kernel_rfl) (fo_s [] rfl rfl rfl (by kernel_rfl) (by kernel_rfl) (by kernel_rfl) (gi1 rfl rfl rfl (beF k18))) (owF (by kernel_rfl) (fo_s [] rfl rfl rfl (by kernel_rfl) (by kernel_rfl) (by kernel_rfl) (gi1 rfl rfl rfl (beF k18))) (owF (by kernel_rfl) (fo_s [] rfl rfl rfl (by kernel_rfl) (by kernel_rfl) (by kernel_rfl) (gi1 rfl rfl rfl (beF k18))) (owF (by kernel_rfl) (fo_s [] rfl rfl rfl (by kernel_rfl) (by kernel_rfl) (by kernel_rfl) (gi1 rfl rfl rfl (beF k18))) (owF (by kernel_rfl) (fo_s [] rfl rfl rfl (by kernel_rfl) (by kernel_rfl) (by kernel_rfl) (gi1 rfl rfl rfl (beF k18))) (owF (by kernel_rfl) (fo_s [] rfl rfl rfl (by kernel_rfl) (by kernel_rfl) (by kernel_rfl) (gi1 rfl rfl rfl (beF k18))) (oE tbok [] 1 (by kernel_rfl) (oL [] rfl (by kernel_rfl) (fl_lt (lt_pickF rfl rfl k17 rfl)) (owF (by kernel_rfl) (fo_l [] rfl rfl rfl (by kernel_rfl) (by kernel_rfl) (by kernel_rfl) (gi1 rfl rfl rfl (beT k17)) (fl_lt (lt_int rfl rfl rfl rfl))) (owF (by kernel_rfl) (fo_l [] rfl rfl rfl (by kernel_rfl) (by kernel_rfl) (by kernel_rfl) (gi1 rfl rfl rfl (beT k17)) (fl_lt (len_sl (e := e_itv_Itv) rfl u58 rfl))) (owF (by kernel_rfl) (fo_l [] rfl rfl rfl (by kernel_rfl) (by kernel_rfl) (by kernel_rfl) (gi1 rfl rfl rfl (beT k17)) (fl_lt (lt_load_box rfl ty58 rfl rfl rfl))) (owF (by kernel_rfl) (fo_l [] rfl rfl rfl (by kernel_rfl) (by kernel_rfl) (by kernel_rfl) (gi1 rfl rfl rfl (beT k17)) (fl_lt (lt_fa_box rfl f64_1 ty58 (by decide) rfl))) (owF (by kernel_rfl) (fo_l [] rfl rfl rfl (by kernel_rfl) (by kernel_rfl) (by kernel_rfl) (gi1 rfl rfl rfl (beT k17)) (fl_lt (lt_fa_box rfl f67_0 ty64 (by decide) rfl))) (oE tbok [] 1 (by kernel_rfl) (oL [] rfl (by kernel_rfl) (fl_lt (lt_pickF rfl rfl k16 rfl)) (owF (by kernel_rfl) (fo_l [] rfl rfl rfl (by kernel_rfl) (by kernel_rfl) (by kernel_rfl) (gi1 rfl rfl rfl (beT k16)) (fl_lt (lt_int rfl rfl rfl rfl))) (owF (by kernel_rfl) (fo_l [] rfl rfl rfl (by kernel_rfl) (by kernel_rfl) (by kernel_rfl) (gi1 rfl rfl rfl (beT k16)) (fl_lt (lt_load_box rfl ty3 rfl rfl rfl))) (owF (by kernel_rfl) (fo_l [] rfl rfl rfl (by kernel_rfl) (by kernel_rfl) (by kernel_rfl) (gi1 rfl rfl rfl (beT k16)) (fl_lt (lt_fa_box rfl f74_0 ty3 (by decide) rfl))) (oE tbok [] 1 (by kernel_rfl) (oL [] rfl (by kernel_rfl) (fl_lt (lt_pickF rfl rfl k15 rfl)) (owF (by kernel_rfl) (fo_l [] rfl rfl rfl (by kernel_rfl) (by kernel_rfl) (by kernel_rfl) (gi1 rfl rfl rfl (beT k15)) (fl_lt (lt_int rfl rfl rfl rfl))) (owF (by kernel_rfl) (fo_l [] rfl rfl rfl (by kernel_rfl) (by kernel_rfl) (by kernel_rfl) (gi1 rfl rfl rfl (beT k15)) (fl_lt (len_sl (e := e_i64) rfl u29 rfl))) (owF (by kernel_rfl) (fo_l [] rfl rfl rfl (by kernel_rfl) (by kernel_rfl) (by kernel_rfl) (gi1 rfl rfl rfl (beT k15)) (fl_lt (lt_move rfl rfl))) (oE tbok [] 1 (by kernel_rfl) (oL [] rfl (by kernel_rfl) (fl_call rfl Tryz.call18 rfl (by kernel_rfl) (by kernel_rfl) (trans_Empty_meets k14)) (oE tbok [] 1 (by kernel_rfl) trivial)))))))))))))))))))))))))))))))) (sub_cons rfl (sub_cons rfl (sub_cons rfl (sub_cons rfl (sub_cons rfl (sub_cons rfl (sub_cons rfl sub_nil))))))) wM ?_
                obtain rfl := retE h
                refine mN ?_
                refine w_sub (env' := [(2, [.c (.box 0 0)]), (3, [.c (.box 1 0)]), (5, [.c (.pv (.sl (List.map e_flow_Edge [(flow_Edge.mk 0 1 0 0 0 0 (check_Expr.mk 0 0 0 []) (check_Cond.mk 0 (check_Expr.mk 0 0 0 []) (check_Expr.mk 0 0 0 []))), (flow_Edge.mk 0 1 6 1 0 0 (check_Expr.mk 0 0 0 []) (check_Cond.mk 0 (check_Expr.mk 0 0 0 []) (check_Expr.mk 0 0 0 [])))])))]), (6, [.c (.pv (.int .i64 x1))]), (8, [.c (.box 3 0)]), (9, [.c (.box 4 0)]), (84, [.c (.pv (.bool true))])]) (sub_cons rfl (sub_cons rfl (sub_cons rfl (sub_cons rfl (sub_cons rfl (sub_cons rfl (sub_cons rfl sub_nil))))))) ?_
                refine w_none 2 (.s (.s .z)) ?_
                refine w_cut 5 rfl rfl rfl rfl ?_
                exact wkE (by kernel_rfl) (by kernel_rfl)
              · have h := iteF h k18
                refine dl (t := 73) 20 [.c (.box 4 0)] rfl ?_
                refine dl (t := 74) 21 [.c (.box 4 1)] rfl ?_
                refine dl (t := 75) 22 [.c (.pv (.sl (List.map e_itv_Itv v11.1.N.I)))] rfl ?_
                obtain ⟨v14, k19, h⟩ := bindE h
                refine dl (t := 76) 23 [.c (.ep [.int .i64 v14.Lo, .int .i64 v14.Hi])] rfl ?_
                refine dl (t := 77) 24 [.agg [.pv (.int .i64 v14.Lo), .pv (.int .i64 v14.Hi)]] rfl ?_
                refine dl (t := 78) 25 [.c (.box 3 0)] rfl ?_
                refine dl (t := 79) 26 [.c (.box 3 1)] rfl ?_
                refine dl (t := 80) 27 [.c (.pv (.sl (List.map e_itv_Itv v10.N.I)))] rfl ?_
                obtain ⟨v15, k20, h⟩ := bindE h
                refine dl (t := 81) 28 [.c (.ep [.int .i64 v15.Lo, .int .i64 v15.Hi])] rfl ?_
                refine dl (t := 82) 29 [.agg [.pv (.int .i64 v15.Lo), .pv (.int .i64 v15.Hi)]] rfl ?_
                refine dl (t := 83) 30 [.c (.pv (.bool (!((v14.Lo : Int) == v15.Lo && ((v14.Hi : Int) == v15.Hi && true)))))] rfl ?_
                refine dl (t := 84) 31 [.c (.pv (.bool (!((v14.Lo : Int) == v15.Lo && ((v14.Hi : Int) == v15.Hi && true)))))] rfl ?_
                refine d_endS (env2 := [(84, [.c (.pv (.bool (!((v14.Lo : Int) == v15.Lo && ((v14.Hi : Int) == v15.Hi && true)))))]), (9, [.c (.box 4 0)]), (8, [.c (.box 3 0)]), (2, [.c (.box 0 0)]), (3, [.c (.box 1 0)]), (5, [.c (.pv (.sl (List.map e_flow_Edge [(flow_Edge.mk 0 1 0 0 0 0 (check_Expr.mk 0 0 0 []) (check_Cond.mk 0 (check_Expr.mk 0 0 0 []) (check_Expr.mk 0 0 0 []))), (flow_Edge.mk 0 1 6 1 0 0 (check_Expr.mk 0 0 0 []) (check_Cond.mk 0 (check_Expr.mk 0 0 0 []) (check_Expr.mk 0 0 0 [])))])))]), (6, [.c (.pv (.int .i64 x1))])]) (wm [0, 1, 3, 7, 15, 31, 63, 127, 255, 511, 1023, 2047, 4095, 8191, 16383, 32767, 65535, 131071, 262143, 524287, 1048575, 2097151, 4194303, 8388607, 16777215, 1048575, 34603007, 101711871, 235929599, 504365055, 1073741823, 2147483647]) (by kernel_rfl) (by kernel_rfl) (by kernel_rfl) (oL [] rfl (by kernel_rfl) (fl_lt (lt_pickF rfl rfl k18 rfl)) (owF (by kernel_rfl) (fo_l [] rfl rfl rfl (by kernel_rfl) (by kernel_rfl) (by kernel_rfl) (gi1 rfl rfl rfl (beT k18)) (fl_lt (lt_eqStruct (r := ((v14.Lo : Int) == v15.Lo && ((v14.Hi : Int) == v15.Hi && true))) rfl u72 sp72 eg72 rfl rfl (by kernel_rfl) (.inr ⟨rfl, rfl⟩)))) (owF (by kernel_rfl) (fo_l [] rfl rfl rfl (by kernel_rfl) (by kernel_rfl) (by kernel_rfl) (gi1 rfl rfl rfl (beT k18)) (fl_lt (lt_load_epA (ys := [.pv (.int .i64 v15.Lo), .pv (.int .i64 v15.Hi)]) rfl ty72 rfl (Nat.le_of_ble_eq_true rfl) (by kernel_rfl)))) (owF (by kernel_rfl) (fo_l [] rfl rfl rfl (by kernel_rfl) (by kernel_rfl) (by kernel_rfl) (gi1 rfl rfl rfl (beT k18)) (fl_lt (ia_sl (e := e_itv_Itv) (y := v15) rfl u58 ty72 rfl rfl k20 rfl))) (owF (by kernel_rfl) (fo_l [] rfl rfl rfl (by kernel_rfl) (by kernel_rfl) (by kernel_rfl) (gi1 rfl rfl rfl (beT k18)) (fl_lt (lt_load_box rfl ty58 rfl rfl rfl))) (owF (by kernel_rfl) (fo_l [] rfl rfl rfl (by kernel_rfl) (by kernel_rfl) (by kernel_rfl) (gi1 rfl rfl rfl (beT k18)) (fl_lt (lt_fa_box rfl f64_1 ty58 (by decide) rfl))) (owF (by kernel_rfl) (fo_l [] rfl rfl rfl (by kernel_rfl) (by kernel_rfl) (by kernel_rfl) (gi1 rfl rfl rfl (beT k18)) (fl_lt (lt_fa_box rfl f67_0 ty64 (by decide) rfl))) (owF (by kernel_rfl) (fo_l [] rfl rfl rfl (by kernel_rfl) (by kernel_rfl) (by kernel_rfl) (gi1 rfl rfl rfl (beT k18)) (fl_lt (lt_load_epA (ys := [.pv (.int .i64 v14.Lo), .pv (.int .i64 v14.Hi)]) rfl ty72 rfl (Nat.le_of_ble_eq_true rfl) (by kernel_rfl)))) (owF (by kernel_rfl) (fo_l [] rfl rfl rfl (by kernel_rfl) (by kernel_rfl) (by kernel_rfl) (gi1 rfl rfl rfl (beT k18)) (fl_lt (ia_sl (e := e_itv_Itv) (y := v14) rfl u58 ty72 rfl rfl k19 rfl))) (owF (by kernel_rfl) (fo_l [] rfl rfl rfl (by kernel_rfl) (by kernel_rfl) (by kernel_rfl) (gi1 rfl rfl rfl (beT k18)) (fl_lt (lt_load_box rfl ty58 rfl rfl rfl))) (owF (by kernel_rfl) (fo_l [] rfl rfl rfl (by kernel_rfl) (by kernel_rfl) (by kernel_rfl) (gi1 rfl rfl rfl (beT k18)) (fl_lt (lt_fa_box rfl f64_1 ty58 (by decide) rfl))) (owF (by kernel_rfl) (fo_l [] rfl rfl rfl (by kernel_rfl) (by kernel_rfl) (by kernel_rfl) (gi1 rfl rfl rfl (beT k18)) (fl_lt (lt_fa_box rfl f67_0 ty64 (by decide) rfl))) (oE tbok [] 1 (by kernel_rfl) (oL [] rfl (by kernel_rfl) (fl_lt (lt_pickF rfl rfl k17 rfl)) (owF (by kernel_rfl) (fo_l [] rfl rfl rfl (by kernel_rfl) (by kernel_rfl) (by kernel_rfl) (gi1 rfl rfl rfl (beT k17)) (fl_lt (lt_int rfl rfl rfl rfl))) (owF (by kernel_rfl) (fo_l [] rfl rfl rfl (by kernel_rfl) (by kernel_rfl) (by kernel_rfl) (gi1 rfl rfl rfl (beT k17)) (fl_lt (len_sl (e := e_itv_Itv) rfl u58 rfl))) (owF (by kernel_rfl) (fo_l [] rfl rfl rfl (by kernel_rfl) (by kernel_rfl) (by kernel_rfl) (gi1 rfl rfl rfl (beT k17)) (fl_lt (lt_load_box rfl ty58 rfl rfl rfl))) (owF (by kernel_rfl) (fo_l [] rfl rfl rfl (by kernel_rfl) (by kernel_rfl) (by kernel_rfl) (gi1 rfl rfl rfl (beT k17)) (fl_lt (lt_fa_box rfl f64_1 ty58 (by decide) rfl))) (owF (by kernel_rfl) (fo_l [] rfl rfl rfl (by kernel_rfl) (by kernel_rfl) (by kernel_rfl) (gi1 rfl rfl rfl (beT k17)) (fl_lt (lt_fa_box rfl f67_0 ty64 (by decide) rfl))) (oE tbok [] 1 (by kernel_rfl) (oL [] rfl (by kernel_rfl) (fl_lt (lt_pickF rfl rfl k16 rfl)) (owF (by kernel_rfl) (fo_l [] rfl rfl rfl (by kernel_rfl) (by kernel_rfl) (by kernel_rfl) (gi1 rfl rfl rfl (beT k16)) (fl_lt (lt_int rfl rfl rfl rfl))) (owF (by kernel_rfl) (fo_l [] rfl rfl rfl (by kernel_rfl) (by kernel_rfl) (by kernel_rfl) (gi1 rfl rfl rfl (beT k16)) (fl_lt (lt_load_box rfl ty3 rfl rfl rfl))) (owF (by kernel_rfl) (fo_l [] rfl rfl rfl (by kernel_rfl) (by kernel_rfl) (by kernel_rfl) (gi1 rfl rfl rfl (beT k16)) (fl_lt (lt_fa_box rfl f74_0 ty3 (by decide) rfl))) (oE tbok [] 1 (by kernel_rfl) (oL [] rfl (by kernel_rfl) (fl_lt (lt_pickF rfl rfl k15 rfl)) (owF (by kernel_rfl) (fo_l [] rfl rfl rfl (by kernel_rfl) (by kernel_rfl) (by kernel_rfl) (gi1 rfl rfl rfl (beT k15)) (fl_lt (lt_int rfl rfl rfl rfl))) (owF (by kernel_rfl) (fo_l [] rfl rfl rfl (by kernel_rfl) (by kernel_rfl) (by kernel_rfl) (gi1 rfl rfl rfl (beT k15)) (fl_lt (len_sl (e := e_i64) rfl u29 rfl))) (owF (by kernel_rfl) (fo_l [] rfl rfl rfl (by kernel_rfl) (by kernel_rfl) (by kernel_rfl) (gi1 rfl rfl rfl (beT k15)) (fl_lt (lt_move rfl rfl))) (oE tbok [] 1 (by kernel_rfl) (oL [] rfl (by kernel_rfl) (fl_call rfl Tryz.call18 rfl (by kernel_rfl) (by kernel_rfl) (trans_Empty_meets k14)) (oE tbok [] 1 (by kernel_rfl) trivial)))))))))))))))))))))))))))))))) (sub_cons rfl (sub_cons rfl (sub_cons rfl (sub_cons rfl (sub_cons rfl (sub_cons rfl (sub_cons rfl sub_nil))))))) wM ?_
                obtain rfl := retE h
                refine mN ?_
                refine w_sub (env' := [(2, [.c (.box 0 0)]), (3, [.c (.box 1 0)]), (5, [.c (.pv (.sl (List.map e_flow_Edge [(flow_Edge.mk 0 1 0 0 0 0 (check_Expr.mk 0 0 0 []) (check_Cond.mk 0 (check_Expr.mk 0 0 0 []) (check_Expr.mk 0 0 0 []))), (flow_Edge.mk 0 1 6 1 0 0 (check_Expr.mk 0 0 0 []) (check_Cond.mk 0 (check_Expr.mk 0 0 0 []) (check_Expr.mk 0 0 0 [])))])))]), (6, [.c (.pv (.int .i64 x1))]), (8, [.c (.box 3 0)]), (9, [.c (.box 4 0)]), (84, [.c (.pv (.bool (!((v14.Lo : Int) == v15.Lo && ((v14.Hi : Int) == v15.Hi && true)))))])]) (sub_cons rfl (sub_cons rfl (sub_cons rfl (sub_cons rfl (sub_cons rfl (sub_cons rfl (sub_cons rfl sub_nil))))))) ?_
                refine w_none 2 (.s (.s .z)) ?_
                refine w_cut 5 rfl rfl rfl rfl ?_
                exact wkE (by kernel_rfl) (by kernel_rfl)
      · refine then_ ?_
        refine cond_ (b := j2) rfl (fun k21 => ?_) (fun k21 => ?_)
        · have h := iteT h k21
          refine seq_ ?_
          refine region_ ?_
          refine R tbok 1 [4, 2, 3, 5, 6, 8, 9] [(4, [.c (.pv (.bool false))]), (2, [.c (.box 0 0)]), (3, [.c (.box 1 0)]), (5, [.c (.pv (.sl (List.map e_flow_Edge [(flow_Edge.mk 0 1 0 0 0 0 (check_Expr.mk 0 0 0 []) (check_Cond.mk 0 (check_Expr.mk 0 0 0 []) (check_Expr.mk 0 0 0 []))), (flow_Edge.mk 0 1 6 1 0 0 (check_Expr.mk 0 0 0 []) (check_Cond.mk 0 (check_Expr.mk 0 0 0 []) (check_Expr.mk 0 0 0 [])))])))]), (6, [.c (.pv (.int .i64 x1))]), (8, [.c (.box 3 0)]), (9, [.c (.box 4 0)])] (by kernel_rfl) ?_
          refine ops_nil ?_
          refine then_ ?_
          refine ret_ ?_
          obtain rfl := retE h
          refine tR (bR (tR (lR (rw_ (.tmp rfl .nil) ?_))))
          refine w_none 0 .z ?_
          refine w_none 1 (.s .z) ?_
          refine w_none 3 (.s (.s (.s .z))) ?_
          refine w_none 4 (.s (.s (.s (.s .z)))) ?_
          refine w_cut 0 rfl rfl rfl rfl ?_
          exact wkE (by kernel_rfl) (by kernel_rfl)
        · have h := iteF h k21
          refine skip_ ?_
          refine then_ ?_
          refine seq_ ?_
          refine jn_ (fun (j3 : Bool) => (⟨113, 0, [(2, [.c (.box 0 0)]), (3, [.c (.box 1 0)]), (5, [.c (.pv (.sl (List.map e_flow_Edge [(flow_Edge.mk 0 1 0 0 0 0 (check_Expr.mk 0 0 0 []) (check_Cond.mk 0 (check_Expr.mk 0 0 0 []) (check_Expr.mk 0 0 0 []))), (flow_Edge.mk 0 1 6 1 0 0 (check_Expr.mk 0 0 0 []) (check_Cond.mk 0 (check_Expr.mk 0 0 0 []) (check_Expr.mk 0 0 0 [])))])))]), (6, [.c (.pv (.int .i64 x1))]), (111, [.c (.pv (.bool j3))])], [some (.box true 44 [.pv (.int .i32 (a0 0)), .pv (.int .i32 (a0 1))]), some (.box true 47 [.pv (.sl (List.map e_i32 a1.Vars)), .pv (.int .i64 a1.Counts), .pv (.int .u8 a1.Rules)])]⟩ : Sx)) h wT (fun o h => ?_) (fun j3 h => ?_)
          · refine drawn_ mixed ?_
            refine dl (t := 85) 0 [.c (.pv (.int .i64 x1))] rfl ?_
            refine dl (t := 86) 1 [.c (.pv (.bool (x1 == 0)))] rfl ?_
            refine dl (t := 87) 2 [.c (.pv (.bool (x1 == 0)))] rfl ?_
            refine (tf (x1 == 0)).elim (fun k22 => ?_) (fun k22 => ?_)
            · have h := iteT h k22
              refine dl (t := 88) 3 [.agg (bs (e_trans_State v11.1))] rfl ?_
              refine dl (t := 89) 4 [.agg (bs (e_trans_State v10))] rfl ?_
              obtain ⟨v17, k24, h⟩ := bindE h
              refine dl (t := 90) 5 [.c (.pv (.bool v17))] rfl ?_
              refine dl (t := 91) 6 [.c (.pv (.bool (!v17)))] rfl ?_
              refine dl (t := 92) 7 [.c (.pv (.bool (!v17)))] rfl ?_
              refine dl (t := 93) 8 [.c (.pv (.bool (!v17)))] rfl ?_
              refine (tf (!v17)).elim (fun k25 => ?_) (fun k25 => ?_)
              · have h := iteT h k25
                refine ds (t := 94) 9 rfl ?_
                refine ds (t := 95) 10 rfl ?_
                refine ds0 (t := 96) 11 rfl ?_
                refine ds (t := 97) 12 rfl ?_
                refine ds (t := 98) 13 rfl ?_
                refine ds (t := 99) 14 rfl ?_
                refine ds (t := 100) 15 rfl ?_
                refine ds (t := 101) 16 rfl ?_
                refine ds (t := 102) 17 rfl ?_
                refine ds (t := 103) 18 rfl ?_
                refine ds (t := 104) 19 rfl ?_
                refine dl (t := 105) 20 [.c (.pv (.bool true))] rfl ?_
                refine dl (t := 106) 21 [.c (.pv (.bool true))] rfl ?_
                refine ds (t := 107) 22 rfl ?_
                refine ds (t := 108) 23 rfl ?_
                refine ds (t := 109) 24 rfl ?_
                refine ds (t := 110) 25 rfl ?_
                refine dl (t := 111) 26 [.c (.pv (.bool true))] rfl ?_
                refine d_endS (env2 := [(111, [.c (.pv (.bool true))]), (2, [.c (.box 0 0)]), (3, [.c (.box 1 0)]), (5, [.c (.pv (.sl (List.map e_flow_Edge [(flow_Edge.mk 0 1 0 0 0 0 (check_Expr.mk 0 0 0 []) (check_Cond.mk 0 (check_Expr.mk 0 0 0 []) (check_Expr.mk 0 0 0 []))), (flow_Edge.mk 0 1 6 1 0 0 (check_Expr.mk 0 0 0 []) (check_Cond.mk 0 (check_Expr.mk 0 0 0 []) (check_Expr.mk 0 0 0 [])))])))]), (6, [.c (.pv (.int .i64 x1))])]) (wm [0, 1, 3, 7, 7, 31, 63, 127, 255, 511, 1023, 2047, 4095, 8191, 16383, 32767, 65535, 4095, 262143, 524287, 1048575, 2097151, 4194303, 4194303, 16777215, 33554431, 67108863]) (by kernel_rfl) (by kernel_rfl) (by kernel_rfl) (oL [] rfl (by kernel_rfl) (fl_lt (lt_pickT rfl rfl rfl rfl)) (owF (by kernel_rfl) (fo_s [] rfl rfl rfl (by kernel_rfl) (by kernel_rfl) (by kernel_rfl) (gi1 rfl rfl rfl (beF rfl))) (owF (by kernel_rfl) (fo_s [] rfl rfl rfl (by kernel_rfl) (by kernel_rfl) (by kernel_rfl) (gi1 rfl rfl rfl (beF rfl))) (owF (by kernel_rfl) (fo_s [] rfl rfl rfl (by kernel_rfl) (by kernel_rfl) (by kernel_rfl) (gi1 rfl rfl rfl (beF rfl))) (owF (by kernel_rfl) (fo_s [] rfl rfl rfl (by kernel_rfl) (by kernel_rfl) (by kernel_rfl) (gi1 rfl rfl rfl (beF rfl))) (oE tbok [] 1 (by kernel_rfl) (oL [] rfl (by kernel_rfl) (fl_lt (lt_pickT rfl rfl k25 rfl)) (owF (by kernel_rfl) (fo_s [] rfl rfl rfl (by kernel_rfl) (by kernel_rfl) (by kernel_rfl) (gi1 rfl rfl rfl (beF k25))) (owF (by kernel_rfl) (fo_s [] rfl rfl rfl (by kernel_rfl) (by kernel_rfl) (by kernel_rfl) (giU rfl rfl rfl)) (owF (by kernel_rfl) (fo_s [] rfl rfl rfl (by kernel_rfl) (by kernel_rfl) (by kernel_rfl) (giU rfl rfl rfl)) (owF (by kernel_rfl) (fo_s [] rfl rfl rfl (by kernel_rfl) (by kernel_rfl) (by kernel_rfl) (giU rfl rfl rfl)) (owF (by kernel_rfl) (fo_s [] rfl rfl rfl (by kernel_rfl) (by kernel_rfl) (by kernel_rfl) (giU rfl rfl rfl)) (owF (by kernel_rfl) (fo_s [] rfl rfl rfl (by kernel_rfl) (by kernel_rfl) (by kernel_rfl) (giU rfl rfl rfl)) (owF (by kernel_rfl) (fo_s [] rfl rfl rfl (by kernel_rfl) (by kernel_rfl) (by kernel_rfl) (giU rfl rfl rfl)) (owF (by kernel_rfl) (fo_s [] rfl rfl rfl (by kernel_rfl) (by kernel_rfl) (by kernel_rfl) (giU rfl rfl rfl)) (owF (by kernel_rfl) (fo_s0 [] rfl rfl rfl (by kernel_rfl) (by kernel_rfl) (by kernel_rfl) (gi1 rfl rfl rfl (beF k25))) (owF (by kernel_rfl) (fo_s [] rfl rfl rfl (by kernel_rfl) (by kernel_rfl) (by kernel_rfl) (gi1 rfl rfl rfl (beF k25))) (owF (by kernel_rfl) (fo_s [] rfl rfl rfl (by kernel_rfl) (by kernel_rfl) (by kernel_rfl) (gi1 rfl rfl rfl (beF k25))) (oE tbok [] 1 (by kernel_rfl) (oL [] rfl (by kernel_rfl) (fl_lt (lt_pickT rfl rfl k22 rfl)) (owF (by kernel_rfl) (fo_l [] rfl rfl rfl (by kernel_rfl) (by kernel_rfl) (by kernel_rfl) (gi1 rfl rfl rfl (beT k22)) (fl_lt (lt_not rfl rfl))) (owF (by kernel_rfl) (fo_l [] rfl rfl rfl (by kernel_rfl) (by kernel_rfl) (by kernel_rfl) (gi1 rfl rfl rfl (beT k22)) (fl_call rfl Tryz.call19 rfl (by kernel_rfl) (by kernel_rfl) (trans_Within_meets k24))) (owF (by kernel_rfl) (fo_l [] rfl rfl rfl (by kernel_rfl) (by kernel_rfl) (by kernel_rfl) (gi1 rfl rfl rfl (beT k22)) (fl_lt (lt_load_boxA (ys := (bs (e_trans_State v10))) rfl ty67 rfl rfl (by kernel_rfl) (by kernel_rfl)))) (owF (by kernel_rfl) (fo_l [] rfl rfl rfl (by kernel_rfl) (by kernel_rfl) (by kernel_rfl) (gi1 rfl rfl rfl (beT k22)) (fl_lt (lt_load_boxA (ys := (bs (e_trans_State v11.1))) rfl ty67 rfl rfl (by kernel_rfl) (by kernel_rfl)))) (oE tbok [] 3 (by kernel_rfl) trivial))))))))))))))))))))))))) (sub_cons rfl (sub_cons rfl (sub_cons rfl (sub_cons rfl (sub_cons rfl sub_nil))))) wM ?_
                obtain rfl := retE h
                refine mN ?_
                refine w_sub (env' := [(2, [.c (.box 0 0)]), (3, [.c (.box 1 0)]), (5, [.c (.pv (.sl (List.map e_flow_Edge [(flow_Edge.mk 0 1 0 0 0 0 (check_Expr.mk 0 0 0 []) (check_Cond.mk 0 (check_Expr.mk 0 0 0 []) (check_Expr.mk 0 0 0 []))), (flow_Edge.mk 0 1 6 1 0 0 (check_Expr.mk 0 0 0 []) (check_Cond.mk 0 (check_Expr.mk 0 0 0 []) (check_Expr.mk 0 0 0 [])))])))]), (6, [.c (.pv (.int .i64 x1))]), (111, [.c (.pv (.bool true))])]) (sub_cons rfl (sub_cons rfl (sub_cons rfl (sub_cons rfl (sub_cons rfl sub_nil))))) ?_
                refine w_cut 2 rfl rfl rfl rfl ?_
                exact wkE (by kernel_rfl) (by kernel_rfl)
              · have h := iteF h k25
                refine dl (t := 94) 9 [.c (.pv (.int .i64 x1))] rfl ?_
                refine dl (t := 95) 10 [.c (.pv (.bool (x1 == 1)))] rfl ?_
                refine dl (t := 96) 11 [.c (.pv (.bool (x1 == 1)))] rfl ?_
                refine (tf (x1 == 1)).elim (fun k26 => ?_) (fun k26 => ?_)
                · have h := iteT h k26
                  refine dl (t := 97) 12 [.c (.box 4 0)] rfl ?_
                  refine dl (t := 98) 13 [.c (.box 4 1)] rfl ?_
                  refine dl (t := 99) 14 [.c (.pv (.sl (List.map e_itv_Itv v11.1.N.I)))] rfl ?_
                  obtain ⟨v18, k27, h⟩ := bindE h
                  refine dl (t := 100) 15 [.c (.ep [.int .i64 v18.Lo, .int .i64 v18.Hi])] rfl ?_
                  refine dl (t := 101) 16 [.agg [.pv (.int .i64 v18.Lo), .pv (.int .i64 v18.Hi)]] rfl ?_
                  obtain ⟨v20, k29, h⟩ := bindE h
                  refine dl (t := 102) 17 [.agg [.pv (.int .i64 v20.Lo), .pv (.int .i64 v20.Hi)]] rfl ?_
                  refine dl (t := 103) 18 [.c (.pv (.bool (!((v18.Lo : Int) == v20.Lo && ((v18.Hi : Int) == v20.Hi && true)))))] rfl ?_
                  refine dl (t := 104) 19 [.c (.pv (.bool (!((v18.Lo : Int) == v20.Lo && ((v18.Hi : Int) == v20.Hi && true)))))] rfl ?_
                  refine dl (t := 105) 20 [.c (.pv (.bool (!((v18.Lo : Int) == v20.Lo && ((v18.Hi : Int) == v20.Hi && true)))))] rfl ?_
                  refine dl (t := 106) 21 [.c (.pv (.bool (!((v18.Lo : Int) == v20.Lo && ((v18.Hi : Int) == v20.Hi && true)))))] rfl ?_
                  refine (tf (!((v18.Lo : Int) == v20.Lo && ((v18.Hi : Int) == v20.Hi && true)))).elim (fun k30 => ?_) (fun k30 => ?_)
                  · have h := iteT h k30
                    refine ds (t := 107) 22 rfl ?_
                    refine ds (t := 108) 23 rfl ?_
                    refine ds (t := 109) 24 rfl ?_
                    refine ds (t := 110) 25 rfl ?_
                    refine dl (t := 111) 26 [.c (.pv (.bool true))] rfl ?_
                    refine d_endS (env2 := [(111, [.c (.pv (.bool true))]), (2, [.c (.box 0 0)]), (3, [.c (.box 1 0)]), (5, [.c (.pv (.sl (List.map e_flow_Edge [(flow_Edge.mk 0 1 0 0 0 0 (check_Expr.mk 0 0 0 []) (check_Cond.mk 0 (check_Expr.mk 0 0 0 []) (check_Expr.mk 0 0 0 []))), (flow_Edge.mk 0 1 6 1 0 0 (check_Expr.mk 0 0 0 []) (check_Cond.mk 0 (check_Expr.mk 0 0 0 []) (check_Expr.mk 0 0 0 [])))])))]), (6, [.c (.pv (.int .i64 x1))])]) (wm [0, 1, 3, 7, 7, 31, 63, 127, 255, 511, 1023, 2047, 4095, 8191, 16383, 32767, 65535, 4095, 262143, 524287, 1048575, 2097151, 4194303, 4194303, 16777215, 33554431, 67108863]) (by kernel_rfl) (by kernel_rfl) (by kernel_rfl) (oL [] rfl (by kernel_rfl) (fl_lt (lt_pickT rfl rfl k30 rfl)) (owF (by kernel_rfl) (fo_s [] rfl rfl rfl (by kernel_rfl) (by kernel_rfl) (by kernel_rfl) (gi1 rfl rfl rfl (beF k30))) (owF (by kernel_rfl) (fo_s [] rfl rfl rfl (by kernel_rfl) (by kernel_rfl) (by kernel_rfl) (gi1 rfl rfl rfl (beF k30))) (owF (by kernel_rfl) (fo_s [] rfl rfl rfl (by kernel_rfl) (by kernel_rfl) (by kernel_rfl) (gi1 rfl rfl rfl (beF k30))) (owF (by kernel_rfl) (fo_s [] rfl rfl rfl (by kernel_rfl) (by kernel_rfl) (by kernel_rfl) (gi1 rfl rfl rfl (beF k30))) (oE tbok [] 1 (by kernel_rfl) (oL [] rfl (by kernel_rfl) (fl_lt (lt_pickF rfl rfl k25 rfl)) (owF (by kernel_rfl) (fo_l [] rfl rfl rfl (by kernel_rfl) (by kernel_rfl) (by kernel_rfl) (gi1 rfl rfl rfl (beT k25)) (fl_lt (lt_pickT rfl rfl k26 rfl))) (owF (by kernel_rfl) (fo_l [] rfl rfl rfl (by kernel_rfl) (by kernel_rfl) (by kernel_rfl) (gi1 rfl rfl rfl (beT k26)) (fl_lt (lt_eqStruct (r := ((v18.Lo : Int) == v20.Lo && ((v18.Hi : Int) == v20.Hi && true))) rfl u72 sp72 eg72 rfl rfl (by kernel_rfl) (.inr ⟨rfl, rfl⟩)))) (owF (by kernel_rfl) (fo_l [] rfl rfl rfl (by kernel_rfl) (by kernel_rfl) (by kernel_rfl) (gi1 rfl rfl rfl (beT k26)) (fl_call rfl Tryz.call20 rfl (by kernel_rfl) (by kernel_rfl) (itv_All_meets k29))) (owF (by kernel_rfl) (fo_l [] rfl rfl rfl (by kernel_rfl) (by kernel_rfl) (by kernel_rfl) (gi1 rfl rfl rfl (beT k26)) (fl_lt (lt_load_epA (ys := [.pv (.int .i64 v18.Lo), .pv (.int .i64 v18.Hi)]) rfl ty72 rfl (Nat.le_of_ble_eq_true rfl) (by kernel_rfl)))) (owF (by kernel_rfl) (fo_l [] rfl rfl rfl (by kernel_rfl) (by kernel_rfl) (by kernel_rfl) (gi1 rfl rfl rfl (beT k26)) (fl_lt (ia_sl (e := e_itv_Itv) (y := v18) rfl u58 ty72 rfl rfl k27 rfl))) (owF (by kernel_rfl) (fo_l [] rfl rfl rfl (by kernel_rfl) (by kernel_rfl) (by kernel_rfl) (gi1 rfl rfl rfl (beT k26)) (fl_lt (lt_load_box rfl ty58 rfl rfl rfl))) (owF (by kernel_rfl) (fo_l [] rfl rfl rfl (by kernel_rfl) (by kernel_rfl) (by kernel_rfl) (gi1 rfl rfl rfl (beT k26)) (fl_lt (lt_fa_box rfl f64_1 ty58 (by decide) rfl))) (owF (by kernel_rfl) (fo_l [] rfl rfl rfl (by kernel_rfl) (by kernel_rfl) (by kernel_rfl) (gi1 rfl rfl rfl (beT k26)) (fl_lt (lt_fa_box rfl f67_0 ty64 (by decide) rfl))) (owF (by kernel_rfl) (fo_l [] rfl rfl rfl (by kernel_rfl) (by kernel_rfl) (by kernel_rfl) (gi1 rfl rfl rfl (beT k25)) (fl_lt (lt_move rfl rfl))) (owF (by kernel_rfl) (fo_l [] rfl rfl rfl (by kernel_rfl) (by kernel_rfl) (by kernel_rfl) (gi1 rfl rfl rfl (beT k25)) (fl_lt (lt_int rfl rfl rfl rfl))) (owF (by kernel_rfl) (fo_l [] rfl rfl rfl (by kernel_rfl) (by kernel_rfl) (by kernel_rfl) (gi1 rfl rfl rfl (beT k25)) (fl_lt (lt_move rfl rfl))) (oE tbok [] 1 (by kernel_rfl) (oL [] rfl (by kernel_rfl) (fl_lt (lt_pickT rfl rfl k22 rfl)) (owF (by kernel_rfl) (fo_l [] rfl rfl rfl (by kernel_rfl) (by kernel_rfl) (by kernel_rfl) (gi1 rfl rfl rfl (beT k22)) (fl_lt (lt_not rfl rfl))) (owF (by kernel_rfl) (fo_l [] rfl rfl rfl (by kernel_rfl) (by kernel_rfl) (by kernel_rfl) (gi1 rfl rfl rfl (beT k22)) (fl_call rfl Tryz.call19 rfl (by kernel_rfl) (by kernel_rfl) (trans_Within_meets k24))) (owF (by kernel_rfl) (fo_l [] rfl rfl rfl (by kernel_rfl) (by kernel_rfl) (by kernel_rfl) (gi1 rfl rfl rfl (beT k22)) (fl_lt (lt_load_boxA (ys := (bs (e_trans_State v10))) rfl ty67 rfl rfl (by kernel_rfl) (by kernel_rfl)))) (owF (by kernel_rfl) (fo_l [] rfl rfl rfl (by kernel_rfl) (by kernel_rfl) (by kernel_rfl) (gi1 rfl rfl rfl (beT k22)) (fl_lt (lt_load_boxA (ys := (bs (e_trans_State v11.1))) rfl ty67 rfl rfl (by kernel_rfl) (by kernel_rfl)))) (oE tbok [] 3 (by kernel_rfl) trivial))))))))))))))))))))))))) (sub_cons rfl (sub_cons rfl (sub_cons rfl (sub_cons rfl (sub_cons rfl sub_nil))))) wM ?_
                    obtain rfl := retE h
                    refine mN ?_
                    refine w_sub (env' := [(2, [.c (.box 0 0)]), (3, [.c (.box 1 0)]), (5, [.c (.pv (.sl (List.map e_flow_Edge [(flow_Edge.mk 0 1 0 0 0 0 (check_Expr.mk 0 0 0 []) (check_Cond.mk 0 (check_Expr.mk 0 0 0 []) (check_Expr.mk 0 0 0 []))), (flow_Edge.mk 0 1 6 1 0 0 (check_Expr.mk 0 0 0 []) (check_Cond.mk 0 (check_Expr.mk 0 0 0 []) (check_Expr.mk 0 0 0 [])))])))]), (6, [.c (.pv (.int .i64 x1))]), (111, [.c (.pv (.bool true))])]) (sub_cons rfl (sub_cons rfl (sub_cons rfl (sub_cons rfl (sub_cons rfl sub_nil))))) ?_
                    refine w_cut 2 rfl rfl rfl rfl ?_
                    exact wkE (by kernel_rfl) (by kernel_rfl)
                  · have h := iteF h k30
                    refine dl (t := 107) 22 [.agg (bs (e_trans_State v10))] rfl ?_
                    refine dl (t := 108) 23 [.agg (bs (e_trans_State v11.1))] rfl ?_
                    obtain ⟨v22, k32, h⟩ := bindE h
                    refine dl (t := 109) 24 [.c (.pv (.bool v22))] rfl ?_
                    refine dl (t := 110) 25 [.c (.pv (.bool (!v22)))] rfl ?_
                    refine dl (t := 111) 26 [.c (.pv (.bool (!v22)))] rfl ?_
                    refine d_endS (env2 := [(111, [.c (.pv (.bool (!v22)))]), (2, [.c (.box 0 0)]), (3, [.c (.box 1 0)]), (5, [.c (.pv (.sl (List.map e_flow_Edge [(flow_Edge.mk 0 1 0 0 0 0 (check_Expr.mk 0 0 0 []) (check_Cond.mk 0 (check_Expr.mk 0 0 0 []) (check_Expr.mk 0 0 0 []))), (flow_Edge.mk 0 1 6 1 0 0 (check_Expr.mk 0 0 0 []) (check_Cond.mk 0 (check_Expr.mk 0 0 0 []) (check_Expr.mk 0 0 0 [])))])))]), (6, [.c (.pv (.int .i64 x1))])]) (wm [0, 1, 3, 7, 7, 31, 63, 127, 255, 511, 1023, 2047, 4095, 8191, 16383, 32767, 65535, 4095, 262143, 524287, 1048575, 2097151, 4194303, 4194303, 16777215, 33554431, 67108863]) (by kernel_rfl) (by kernel_rfl) (by kernel_rfl) (oL [] rfl (by kernel_rfl) (fl_lt (lt_pickF rfl rfl k30 rfl)) (owF (by kernel_rfl) (fo_l [] rfl rfl rfl (by kernel_rfl) (by kernel_rfl) (by kernel_rfl) (gi1 rfl rfl rfl (beT k30)) (fl_lt (lt_not rfl rfl))) (owF (by kernel_rfl) (fo_l [] rfl rfl rfl (by kernel_rfl) (by kernel_rfl) (by kernel_rfl) (gi1 rfl rfl rfl (beT k30)) (fl_call rfl Tryz.call19 rfl (by kernel_rfl) (by kernel_rfl) (trans_Within_meets k32))) (owF (by kernel_rfl) (fo_l [] rfl rfl rfl (by kernel_rfl) (by kernel_rfl) (by kernel_rfl) (gi1 rfl rfl rfl (beT k30)) (fl_lt (lt_load_boxA (ys := (bs (e_trans_State v11.1))) rfl ty67 rfl rfl (by kernel_rfl) (by kernel_rfl)))) (owF (by kernel_rfl) (fo_l [] rfl rfl rfl (by kernel_rfl) (by kernel_rfl) (by kernel_rfl) (gi1 rfl rfl rfl (beT k30)) (fl_lt (lt_load_boxA (ys := (bs (e_trans_State v10))) rfl ty67 rfl rfl (by kernel_rfl) (by kernel_rfl)))) (oE tbok [] 1 (by kernel_rfl) (oL [] rfl (by kernel_rfl) (fl_lt (lt_pickF rfl rfl k25 rfl)) (owF (by kernel_rfl) (fo_l [] rfl rfl rfl (by kernel_rfl) (by kernel_rfl) (by kernel_rfl) (gi1 rfl rfl rfl (beT k25)) (fl_lt (lt_pickT rfl rfl k26 rfl))) (owF (by kernel_rfl) (fo_l [] rfl rfl rfl (by kernel_rfl) (by kernel_rfl) (by kernel_rfl) (gi1 rfl rfl rfl (beT k26)) (fl_lt (lt_eqStruct (r := ((v18.Lo : Int) == v20.Lo && ((v18.Hi : Int) == v20.Hi && true))) rfl u72 sp72 eg72 rfl rfl (by kernel_rfl) (.inr ⟨rfl, rfl⟩)))) (owF (by kernel_rfl) (fo_l [] rfl rfl rfl (by kernel_rfl) (by kernel_rfl) (by kernel_rfl) (gi1 rfl rfl rfl (beT k26)) (fl_call rfl Tryz.call20 rfl (by kernel_rfl) (by kernel_rfl) (itv_All_meets k29))) (owF (by kernel_rfl) (fo_l [] rfl rfl rfl (by kernel_rfl) (by kernel_rfl) (by kernel_rfl) (gi1 rfl rfl rfl (beT k26)) (fl_lt (lt_load_epA (ys := [.pv (.int .i64 v18.Lo), .pv (.int .i64 v18.Hi)]) rfl ty72 rfl (Nat.le_of_ble_eq_true rfl) (by kernel_rfl)))) (owF (by kernel_rfl) (fo_l [] rfl rfl rfl (by kernel_rfl) (by kernel_rfl) (by kernel_rfl) (gi1 rfl rfl rfl (beT k26)) (fl_lt (ia_sl (e := e_itv_Itv) (y := v18) rfl u58 ty72 rfl rfl k27 rfl))) (owF (by kernel_rfl) (fo_l [] rfl rfl rfl (by kernel_rfl) (by kernel_rfl) (by kernel_rfl) (gi1 rfl rfl rfl (beT k26)) (fl_lt (lt_load_box rfl ty58 rfl rfl rfl))) (owF (by kernel_rfl) (fo_l [] rfl rfl rfl (by kernel_rfl) (by kernel_rfl) (by kernel_rfl) (gi1 rfl rfl rfl (beT k26)) (fl_lt (lt_fa_box rfl f64_1 ty58 (by decide) rfl))) (owF (by kernel_rfl) (fo_l [] rfl rfl rfl (by kernel_rfl) (by kernel_rfl) (by kernel_rfl) (gi1 rfl rfl rfl (beT k26)) (fl_lt (lt_fa_box rfl f67_0 ty64 (by decide) rfl))) (owF (by kernel_rfl) (fo_l [] rfl rfl rfl (by kernel_rfl) (by kernel_rfl) (by kernel_rfl) (gi1 rfl rfl rfl (beT k25)) (fl_lt (lt_move rfl rfl))) (owF (by kernel_rfl) (fo_l [] rfl rfl rfl (by kernel_rfl) (by kernel_rfl) (by kernel_rfl) (gi1 rfl rfl rfl (beT k25)) (fl_lt (lt_int rfl rfl rfl rfl))) (owF (by kernel_rfl) (fo_l [] rfl rfl rfl (by kernel_rfl) (by kernel_rfl) (by kernel_rfl) (gi1 rfl rfl rfl (beT k25)) (fl_lt (lt_move rfl rfl))) (oE tbok [] 1 (by kernel_rfl) (oL [] rfl (by kernel_rfl) (fl_lt (lt_pickT rfl rfl k22 rfl)) (owF (by kernel_rfl) (fo_l [] rfl rfl rfl (by kernel_rfl) (by kernel_rfl) (by kernel_rfl) (gi1 rfl rfl rfl (beT k22)) (fl_lt (lt_not rfl rfl))) (owF (by kernel_rfl) (fo_l [] rfl rfl rfl (by kernel_rfl) (by kernel_rfl) (by kernel_rfl) (gi1 rfl rfl rfl (beT k22)) (fl_call rfl Tryz.call19 rfl (by kernel_rfl) (by kernel_rfl) (trans_Within_meets k24))) (owF (by kernel_rfl) (fo_l [] rfl rfl rfl (by kernel_rfl) (by kernel_rfl) (by kernel_rfl) (gi1 rfl rfl rfl (beT k22)) (fl_lt (lt_load_boxA (ys := (bs (e_trans_State v10))) rfl ty67 rfl rfl (by kernel_rfl) (by kernel_rfl)))) (owF (by kernel_rfl) (fo_l [] rfl rfl rfl (by kernel_rfl) (by kernel_rfl) (by kernel_rfl) (gi1 rfl rfl rfl (beT k22)) (fl_lt (lt_load_boxA (ys := (bs (e_trans_State v11.1))) rfl ty67 rfl rfl (by kernel_rfl) (by kernel_rfl)))) (oE tbok [] 3 (by kernel_rfl) trivial))))))))))))))))))))))))) (sub_cons rfl (sub_cons rfl (sub_cons rfl (sub_cons rfl (sub_cons rfl sub_nil))))) wM ?_
                    obtain rfl := retE h
                    refine mN ?_
                    refine w_sub (env' := [(2, [.c (.box 0 0)]), (3, [.c (.box 1 0)]), (5, [.c (.pv (.sl (List.map e_flow_Edge [(flow_Edge.mk 0 1 0 0 0 0 (check_Expr.mk 0 0 0 []) (check_Cond.mk 0 (check_Expr.mk 0 0 0 []) (check_Expr.mk 0 0 0 []))), (flow_Edge.mk 0 1 6 1 0 0 (check_Expr.mk 0 0 0 []) (check_Cond.mk 0 (check_Expr.mk 0 0 0 []) (check_Expr.mk 0 0 0 [])))])))]), (6, [.c (.pv (.int .i64 x1))]), (111, [.c (.pv (.bool (!v22)))])]) (sub_cons rfl (sub_cons rfl (sub_cons rfl (sub_cons rfl (sub_cons rfl sub_nil))))) ?_
                    refine w_cut 2 rfl rfl rfl rfl ?_
                    exact wkE (by kernel_rfl) (by kernel_rfl)
                · have h := iteF h k26
                  refine ds (t := 97) 12 rfl ?_
                  refine ds (t := 98) 13 rfl ?_
                  refine ds (t := 99) 14 rfl ?_
                  refine ds (t := 100) 15 rfl ?_
                  refine ds (t := 101) 16 rfl ?_
                  refine ds (t := 102) 17 rfl ?_
                  refine ds (t := 103) 18 rfl ?_
                  refine dl (t := 104) 19 [.c (.pv (.bool false))] rfl ?_
                  refine dl (t := 105) 20 [.c (.pv (.bool false))] rfl ?_
                  refine dl (t := 106) 21 [.c (.pv (.bool false))] rfl ?_
                  refine dl (t := 107) 22 [.agg (bs (e_trans_State v10))] rfl ?_
                  refine dl (t := 108) 23 [.agg (bs (e_trans_State v11.1))] rfl ?_
                  obtain ⟨v24, k34, h⟩ := bindE h
                  refine dl (t := 109) 24 [.c (.pv (.bool v24))] rfl ?_
                  refine dl (t := 110) 25 [.c (.pv (.bool (!v24)))] rfl ?_
                  refine dl (t := 111) 26 [.c (.pv (.bool (!v24)))] rfl ?_
                  refine d_endS (env2 := [(111, [.c (.pv (.bool (!v24)))]), (2, [.c (.box 0 0)]), (3, [.c (.box 1 0)]), (5, [.c (.pv (.sl (List.map e_flow_Edge [(flow_Edge.mk 0 1 0 0 0 0 (check_Expr.mk 0 0 0 []) (check_Cond.mk 0 (check_Expr.mk 0 0 0 []) (check_Expr.mk 0 0 0 []))), (flow_Edge.mk 0 1 6 1 0 0 (check_Expr.mk 0 0 0 []) (check_Cond.mk 0 (check_Expr.mk 0 0 0 []) (check_Expr.mk 0 0 0 [])))])))]), (6, [.c (.pv (.int .i64 x1))])]) (wm [0, 1, 3, 7, 7, 31, 63, 127, 255, 511, 1023, 2047, 4095, 8191, 16383, 32767, 65535, 4095, 262143, 524287, 1048575, 2097151, 4194303, 4194303, 16777215, 33554431, 67108863]) (by kernel_rfl) (by kernel_rfl) (by kernel_rfl) (oL [] rfl (by kernel_rfl) (fl_lt (lt_pickF rfl rfl rfl rfl)) (owF (by kernel_rfl) (fo_l [] rfl rfl rfl (by kernel_rfl) (by kernel_rfl) (by kernel_rfl) (gi1 rfl rfl rfl (beT rfl)) (fl_lt (lt_not rfl rfl))) (owF (by kernel_rfl) (fo_l [] rfl rfl rfl (by kernel_rfl) (by kernel_rfl) (by kernel_rfl) (gi1 rfl rfl rfl (beT rfl)) (fl_call rfl Tryz.call19 rfl (by kernel_rfl) (by kernel_rfl) (trans_Within_meets k34))) (owF (by kernel_rfl) (fo_l [] rfl rfl rfl (by kernel_rfl) (by kernel_rfl) (by kernel_rfl) (gi1 rfl rfl rfl (beT rfl)) (fl_lt (lt_load_boxA (ys := (bs (e_trans_State v11.1))) rfl ty67 rfl rfl (by kernel_rfl) (by kernel_rfl)))) (owF (by kernel_rfl) (fo_l [] rfl rfl rfl (by kernel_rfl) (by kernel_rfl) (by kernel_rfl) (gi1 rfl rfl rfl (beT rfl)) (fl_lt (lt_load_boxA (ys := (bs (e_trans_State v10))) rfl ty67 rfl rfl (by kernel_rfl) (by kernel_rfl)))) (oE tbok [] 1 (by kernel_rfl) (oL [] rfl (by kernel_rfl) (fl_lt (lt_pickF rfl rfl k25 rfl)) (owF (by kernel_rfl) (fo_l [] rfl rfl rfl (by kernel_rfl) (by kernel_rfl) (by kernel_rfl) (gi1 rfl rfl rfl (beT k25)) (fl_lt (lt_pickF rfl rfl k26 rfl))) (owF (by kernel_rfl) (fo_s [] rfl rfl rfl (by kernel_rfl) (by kernel_rfl) (by kernel_rfl) (gi1 rfl rfl rfl (beF k26))) (owF (by kernel_rfl) (fo_s [] rfl rfl rfl (by kernel_rfl) (by kernel_rfl) (by kernel_rfl) (gi1 rfl rfl rfl (beF k26))) (owF (by kernel_rfl) (fo_s [] rfl rfl rfl (by kernel_rfl) (by kernel_rfl) (by kernel_rfl) (gi1 rfl rfl rfl (beF k26))) (owF (by kernel_rfl) (fo_s [] rfl rfl rfl (by kernel_rfl) (by kernel_rfl) (by kernel_rfl) (gi1 rfl rfl rfl (beF k26))) (owF (by kernel_rfl) (fo_s [] rfl rfl rfl (by kernel_rfl) (by kernel_rfl) (by kernel_rfl) (gi1 rfl rfl rfl (beF k26))) (owF (by kernel_rfl) (fo_s [] rfl rfl rfl (by kernel_rfl) (by kernel_rfl) (by kernel_rfl) (gi1 rfl rfl rfl (beF k26))) (owF (by kernel_rfl) (fo_s [] rfl rfl rfl (by kernel_rfl) (by kernel_rfl) (by kernel_rfl) (gi1 rfl rfl rfl (beF k26))) (owF (by kernel_rfl) (fo_l [] rfl rfl rfl (by kernel_rfl) (by kernel_rfl) (by kernel_rfl) (gi1 rfl rfl rfl (beT k25)) (fl_lt (lt_move rfl rfl))) (owF (by kernel_rfl) (fo_l [] rfl rfl rfl (by kernel_rfl) (by kernel_rfl) (by kernel_rfl) (gi1 rfl rfl rfl (beT k25)) (fl_lt (lt_int rfl rfl rfl rfl))) (owF (by kernel_rfl) (fo_l [] rfl rfl rfl (by kernel_rfl) (by kernel_rfl) (by kernel_rfl) (gi1 rfl rfl rfl (beT k25)) (fl_lt (lt_move rfl rfl))) (oE tbok [] 1 (by kernel_rfl) (oL [] rfl (by kernel_rfl) (fl_lt (lt_pickT rfl rfl k22 rfl)) (owF (by kernel_rfl) (fo_l [] rfl rfl rfl (by kernel_rfl) (by kernel_rfl) (by kernel_rfl) (gi1 rfl rfl rfl (beT k22)) (fl_lt (lt_not rfl rfl))) (owF (by kernel_rfl) (fo_l [] rfl rfl rfl (by kernel_rfl) (by kernel_rfl) (by kernel_rfl) (gi1 rfl rfl rfl (beT k22)) (fl_call rfl Tryz.call19 rfl (by kernel_rfl) (by kernel_rfl) (trans_Within_meets k24))) (owF (by kernel_rfl) (fo_l [] rfl rfl rfl (by kernel_rfl) (by kernel_rfl) (by kernel_rfl) (gi1 rfl rfl rfl (beT k22)) (fl_lt (lt_load_boxA (ys := (bs (e_trans_State v10))) rfl ty67 rfl rfl (by kernel_rfl) (by kernel_rfl)))) (owF (by kernel_rfl) (fo_l [] rfl rfl rfl (by kernel_rfl) (by kernel_rfl) (by kernel_rfl) (gi1 rfl rfl rfl (beT k22)) (fl_lt (lt_load_boxA (ys := (bs (e_trans_State v11.1))) rfl ty67 rfl rfl (by kernel_rfl) (by kernel_rfl)))) (oE tbok [] 3 (by kernel_rfl) trivial))))))))))))))))))))))))) (sub_cons rfl (sub_cons rfl (sub_cons rfl (sub_cons rfl (sub_cons rfl sub_nil))))) wM ?_
                  obtain rfl := retE h
                  refine mN ?_
                  refine w_sub (env' := [(2, [.c (.box 0 0)]), (3, [.c (.box 1 0)]), (5, [.c (.pv (.sl (List.map e_flow_Edge [(flow_Edge.mk 0 1 0 0 0 0 (check_Expr.mk 0 0 0 []) (check_Cond.mk 0 (check_Expr.mk 0 0 0 []) (check_Expr.mk 0 0 0 []))), (flow_Edge.mk 0 1 6 1 0 0 (check_Expr.mk 0 0 0 []) (check_Cond.mk 0 (check_Expr.mk 0 0 0 []) (check_Expr.mk 0 0 0 [])))])))]), (6, [.c (.pv (.int .i64 x1))]), (111, [.c (.pv (.bool (!v24)))])]) (sub_cons rfl (sub_cons rfl (sub_cons rfl (sub_cons rfl (sub_cons rfl sub_nil))))) ?_
                  refine w_cut 2 rfl rfl rfl rfl ?_
                  exact wkE (by kernel_rfl) (by kernel_rfl)
            · have h := iteF h k22
              refine ds (t := 88) 3 rfl ?_
              refine ds (t := 89) 4 rfl ?_
              refine ds (t := 90) 5 rfl ?_
              refine ds (t := 91) 6 rfl ?_
              refine dl (t := 92) 7 [.c (.pv (.bool false))] rfl ?_
              refine dl (t := 93) 8 [.c (.pv (.bool false))] rfl ?_
              refine dl (t := 94) 9 [.c (.pv (.int .i64 x1))] rfl ?_
              refine dl (t := 95) 10 [.c (.pv (.bool (x1 == 1)))] rfl ?_
              refine dl (t := 96) 11 [.c (.pv (.bool (x1 == 1)))] rfl ?_
              refine (tf (x1 == 1)).elim (fun k35 => ?_) (fun k35 => ?_)
              · have h := iteT h k35
                refine dl (t := 97) 12 [.c (.box 4 0)] rfl ?_
                refine dl (t := 98) 13 [.c (.box 4 1)] rfl ?_
                refine dl (t := 99) 14 [.c (.pv (.sl (List.map e_itv_Itv v11.1.N.I)))] rfl ?_
                obtain ⟨v25, k36, h⟩ := bindE h
                refine dl (t := 100) 15 [.c (.ep [.int .i64 v25.Lo, .int .i64 v25.Hi])] rfl ?_
                refine dl (t := 101) 16 [.agg [.pv (.int .i64 v25.Lo), .pv (.int .i64 v25.Hi)]] rfl ?_
                obtain ⟨v27, k38, h⟩ := bindE h
                refine dl (t := 102) 17 [.agg [.pv (.int .i64 v27.Lo), .pv (.int .i64 v27.Hi)]] rfl ?_
                refine dl (t := 103) 18 [.c (.pv (.bool (!((v25.Lo : Int) == v27.Lo && ((v25.Hi : Int) == v27.Hi && true)))))] rfl ?_
                refine dl (t := 104) 19 [.c (.pv (.bool (!((v25.Lo : Int) == v27.Lo && ((v25.Hi : Int) == v27.Hi && true)))))] rfl ?_
                refine dl (t := 105) 20 [.c (.pv (.bool (!((v25.Lo : Int) == v27.Lo && ((v25.Hi : Int) == v27.Hi && true)))))] rfl ?_
                refine dl (t := 106) 21 [.c (.pv (.bool (!((v25.Lo : Int) == v27.Lo && ((v25.Hi : Int) == v27.Hi && true)))))] rfl ?_
                refine (tf (!((v25.Lo : Int) == v27.Lo && ((v25.Hi : Int) == v27.Hi && true)))).elim (fun k39 => ?_) (fun k39 => ?_)
                · have h := iteT h k39
                  refine ds (t := 107) 22 rfl ?_
                  refine ds (t := 108) 23 rfl ?_
                  refine ds (t := 109) 24 rfl ?_
                  refine ds (t := 110) 25 rfl ?_
                  refine dl (t := 111) 26 [.c (.pv (.bool true))] rfl ?_
                  refine d_endS (env2 := [(111, [.c (.pv (.bool true))]), (2, [.c (.box 0 0)]), (3, [.c (.box 1 0)]), (5, [.c (.pv (.sl (List.map e_flow_Edge [(flow_Edge.mk 0 1 0 0 0 0 (check_Expr.mk 0 0 0 []) (check_Cond.mk 0 (check_Expr.mk 0 0 0 []) (check_Expr.mk 0 0 0 []))), (flow_Edge.mk 0 1 6 1 0 0 (check_Expr.mk 0 0 0 []) (check_Cond.mk 0 (check_Expr.mk 0 0 0 []) (check_Expr.mk 0 0 0 [])))])))]), (6, [.c (.pv (.int .i64 x1))])]) (wm [0, 1, 3, 7, 7, 31, 63, 127, 255, 511, 1023, 2047, 4095, 8191, 16383, 32767, 65535, 4095, 262143, 524287, 1048575, 2097151, 4194303, 4194303, 16777215, 33554431, 67108863]) (by kernel_rfl) (by kernel_rfl) (by kernel_rfl) (oL [] rfl (by kernel_rfl) (fl_lt (lt_pickT rfl rfl k39 rfl)) (owF (by kernel_rfl) (fo_s [] rfl rfl rfl (by kernel_rfl) (by kernel_rfl) (by kernel_rfl) (gi1 rfl rfl rfl (beF k39))) (owF (by kernel_rfl) (fo_s [] rfl rfl rfl (by kernel_rfl) (by kernel_rfl) (by kernel_rfl) (gi1 rfl rfl rfl (beF k39))) (owF (by kernel_rfl) (fo_s [] rfl rfl rfl (by kernel_rfl) (by kernel_rfl) (by kernel_rfl) (gi1 rfl rfl rfl (beF k39))) (owF (by kernel_rfl) (fo_s [] rfl rfl rfl (by kernel_rfl) (by kernel_rfl) (by kernel_rfl) (gi1 rfl rfl rfl (beF k39))) (oE tbok [] 1 (by kernel_rfl) (oL [] rfl (by kernel_rfl) (fl_lt (lt_pickF rfl rfl rfl rfl)) (owF (by kernel_rfl) (fo_l [] rfl rfl rfl (by kernel_rfl) (by kernel_rfl) (by kernel_rfl) (gi1 rfl rfl rfl (beT rfl)) (fl_lt (lt_pickT rfl rfl k35 rfl))) (owF (by kernel_rfl) (fo_l [] rfl rfl rfl (by kernel_rfl) (by kernel_rfl) (by kernel_rfl) (gi1 rfl rfl rfl (beT k35)) (fl_lt (lt_eqStruct (r := ((v25.Lo : Int) == v27.Lo && ((v25.Hi : Int) == v27.Hi && true))) rfl u72 sp72 eg72 rfl rfl (by kernel_rfl) (.inr ⟨rfl, rfl⟩)))) (owF (by kernel_rfl) (fo_l [] rfl rfl rfl (by kernel_rfl) (by kernel_rfl) (by kernel_rfl) (gi1 rfl rfl rfl (beT k35)) (fl_call rfl Tryz.call20 rfl (by kernel_rfl) (by kernel_rfl) (itv_All_meets k38))) (owF (by kernel_rfl) (fo_l [] rfl rfl rfl (by kernel_rfl) (by kernel_rfl) (by kernel_rfl) (gi1 rfl rfl rfl (beT k35)) (fl_lt (lt_load_epA (ys := [.pv (.int .i64 v25.Lo), .pv (.int .i64 v25.Hi)]) rfl ty72 rfl (Nat.le_of_ble_eq_true rfl) (by kernel_rfl)))) (owF (by kernel_rfl) (fo_l [] rfl rfl rfl (by kernel_rfl) (by kernel_rfl) (by kernel_rfl) (gi1 rfl rfl rfl (beT k35)) (fl_lt (ia_sl (e := e_itv_Itv) (y := v25) rfl u58 ty72 rfl rfl k36 rfl))) (owF (by kernel_rfl) (fo_l [] rfl rfl rfl (by kernel_rfl) (by kernel_rfl) (by kernel_rfl) (gi1 rfl rfl rfl (beT k35)) (fl_lt (lt_load_box rfl ty58 rfl rfl rfl))) (owF (by kernel_rfl) (fo_l [] rfl rfl rfl (by kernel_rfl) (by kernel_rfl) (by kernel_rfl) (gi1 rfl rfl rfl (beT k35)) (fl_lt (lt_fa_box rfl f64_1 ty58 (by decide) rfl))) (owF (by kernel_rfl) (fo_l [] rfl rfl rfl (by kernel_rfl) (by kernel_rfl) (by kernel_rfl) (gi1 rfl rfl rfl (beT k35)) (fl_lt (lt_fa_box rfl f67_0 ty64 (by decide) rfl))) (owF (by kernel_rfl) (fo_l [] rfl rfl rfl (by kernel_rfl) (by kernel_rfl) (by kernel_rfl) (gi1 rfl rfl rfl (beT rfl)) (fl_lt (lt_move rfl rfl))) (owF (by kernel_rfl) (fo_l [] rfl rfl rfl (by kernel_rfl) (by kernel_rfl) (by kernel_rfl) (gi1 rfl rfl rfl (beT rfl)) (fl_lt (lt_int rfl rfl rfl rfl))) (owF (by kernel_rfl) (fo_l [] rfl rfl rfl (by kernel_rfl) (by kernel_rfl) (by kernel_rfl) (gi1 rfl rfl rfl (beT rfl)) (fl_lt (lt_move rfl rfl))) (oE tbok [] 1 (by kernel_rfl) (oL [] rfl (by kernel_rfl) (fl_lt (lt_pickF rfl rfl k22 rfl)) (owF (by kernel_rfl) (fo_s [] rfl rfl rfl (by kernel_rfl) (by kernel_rfl) (by kernel_rfl) (gi1 rfl rfl rfl (beF k22))) (owF (by kernel_rfl) (fo_s [] rfl rfl rfl (by kernel_rfl) (by kernel_rfl) (by kernel_rfl) (gi1 rfl rfl rfl (beF k22))) (owF (by kernel_rfl) (fo_s [] rfl rfl rfl (by kernel_rfl) (by kernel_rfl) (by kernel_rfl) (gi1 rfl rfl rfl (beF k22))) (owF (by kernel_rfl) (fo_s [] rfl rfl rfl (by kernel_rfl) (by kernel_rfl) (by kernel_rfl) (gi1 rfl rfl rfl (beF k22))) (oE tbok [] 3 (by kernel_rfl) trivial))))))))))))))))))))))))) (sub_cons rfl (sub_cons rfl (sub_cons rfl (sub_cons rfl (sub_cons rfl sub_nil))))) wM ?_
                  obtain rfl := retE h
                  refine mN ?_
                  refine w_sub (env' := [(2, [.c (.box 0 0)]), (3, [.c (.box 1 0)]), (5, [.c (.pv (.sl (List.map e_flow_Edge [(flow_Edge.mk 0 1 0 0 0 0 (check_Expr.mk 0 0 0 []) (check_Cond.mk 0 (check_Expr.mk 0 0 0 []) (check_Expr.mk 0 0 0 []))), (flow_Edge.mk 0 1 6 1 0 0 (check_Expr.mk 0 0 0 []) (check_Cond.mk 0 (check_Expr.mk 0 0 0 []) (check_Expr.mk 0 0 0 [])))])))]), (6, [.c (.pv (.int .i64 x1))]), (111, [.c (.pv (.bool true))])]) (sub_cons rfl (sub_cons rfl (sub_cons rfl (sub_cons rfl (sub_cons rfl sub_nil))))) ?_
                  refine w_cut 2 rfl rfl rfl rfl ?_
                  exact wkE (by kernel_rfl) (by kernel_rfl)
                · have h := iteF h k39
                  refine dl (t := 107) 22 [.agg (bs (e_trans_State v10))] rfl ?_
                  refine dl (t := 108) 23 [.agg (bs (e_trans_State v11.1))] rfl ?_
                  obtain ⟨v29, k41, h⟩ := bindE h
                  refine dl (t := 109) 24 [.c (.pv (.bool v29))] rfl ?_
                  refine dl (t := 110) 25 [.c (.pv (.bool (!v29)))] rfl ?_
                  refine dl (t := 111) 26 [.c (.pv (.bool (!v29)))] rfl ?_
                  refine d_endS (env2 := [(111, [.c (.pv (.bool (!v29)))]), (2, [.c (.box 0 0)]), (3, [.c (.box 1 0)]), (5, [.c (.pv (.sl (List.map e_flow_Edge [(flow_Edge.mk 0 1 0 0 0 0 (check_Expr.mk 0 0 0 []) (check_Cond.mk 0 (check_Expr.mk 0 0 0 []) (check_Expr.mk 0 0 0 []))), (flow_Edge.mk 0 1 6 1 0 0 (check_Expr.mk 0 0 0 []) (check_Cond.mk 0 (check_Expr.mk 0 0 0 []) (check_Expr.mk 0 0 0 [])))])))]), (6, [.c (.pv (.int .i64 x1))])]) (wm [0, 1, 3, 7, 7, 31, 63, 127, 255, 511, 1023, 2047, 4095, 8191, 16383, 32767, 65535, 4095, 262143, 524287, 1048575, 2097151, 4194303, 4194303, 16777215, 33554431, 67108863]) (by kernel_rfl) (by kernel_rfl) (by kernel_rfl) (oL [] rfl (by kernel_rfl) (fl_lt (lt_pickF rfl rfl k39 rfl)) (owF (by kernel_rfl) (fo_l [] rfl rfl rfl (by kernel_rfl) (by kernel_rfl) (by kernel_rfl) (gi1 rfl rfl rfl (beT k39)) (fl_lt (lt_not rfl rfl))) (owF (by kernel_rfl) (fo_l [] rfl rfl rfl (by kernel_rfl) (by kernel_rfl) (by kernel_rfl) (gi1 rfl rfl rfl (beT k39)) (fl_call rfl Tryz.call19 rfl (by kernel_rfl) (by kernel_rfl) (trans_Within_meets k41))) (owF (by kernel_rfl) (fo_l [] rfl rfl rfl (by kernel_rfl) (by kernel_rfl) (by kernel_rfl) (gi1 rfl rfl rfl (beT k39)) (fl_lt (lt_load_boxA (ys := (bs (e_trans_State v11.1))) rfl ty67 rfl rfl (by kernel_rfl) (by kernel_rfl)))) (owF (by kernel_rfl) (fo_l [] rfl rfl rfl (by kernel_rfl) (by kernel_rfl) (by kernel_rfl) (gi1 rfl rfl rfl (beT k39)) (fl_lt (lt_load_boxA (ys := (bs (e_trans_State v10))) rfl ty67 rfl rfl (by kernel_rfl) (by kernel_rfl)))) (oE tbok [] 1 (by kernel_rfl) (oL [] rfl (by kernel_rfl) (fl_lt (lt_pickF rfl rfl rfl rfl)) (owF (by kernel_rfl) (fo_l [] rfl rfl rfl (by kernel_rfl) (by kernel_rfl) (by kernel_rfl) (gi1 rfl rfl rfl (beT rfl)) (fl_lt (lt_pickT rfl rfl k35 rfl))) (owF (by kernel_rfl) (fo_l [] rfl rfl rfl (by kernel_rfl) (by kernel_rfl) (by kernel_rfl) (gi1 rfl rfl rfl (beT k35)) (fl_lt (lt_eqStruct (r := ((v25.Lo : Int) == v27.Lo && ((v25.Hi : Int) == v27.Hi && true))) rfl u72 sp72 eg72 rfl rfl (by kernel_rfl) (.inr ⟨rfl, rfl⟩)))) (owF (by kernel_rfl) (fo_l [] rfl rfl rfl (by kernel_rfl) (by kernel_rfl) (by kernel_rfl) (gi1 rfl rfl rfl (beT k35)) (fl_call rfl Tryz.call20 rfl (by kernel_rfl) (by kernel_rfl) (itv_All_meets k38))) (owF (by kernel_rfl) (fo_l [] rfl rfl rfl (by kernel_rfl) (by kernel_rfl) (by kernel_rfl) (gi1 rfl rfl rfl (beT k35)) (fl_lt (lt_load_epA (ys := [.pv (.int .i64 v25.Lo), .pv (.int .i64 v25.Hi)]) rfl ty72 rfl (Nat.le_of_ble_eq_true rfl) (by kernel_rfl)))) (owF (by kernel_rfl) (fo_l [] rfl rfl rfl (by kernel_rfl) (by kernel_rfl) (by kernel_rfl) (gi1 rfl rfl rfl (beT k35)) (fl_lt (ia_sl (e := e_itv_Itv) (y := v25) rfl u58 ty72 rfl rfl k36 rfl))) (owF (by kernel_rfl) (fo_l [] rfl rfl rfl (by kernel_rfl) (by kernel_rfl) (by kernel_rfl) (gi1 rfl rfl rfl (beT k35)) (fl_lt (lt_load_box rfl ty58 rfl rfl rfl))) (owF (by kernel_rfl) (fo_l [] rfl rfl rfl (by kernel_rfl) (by kernel_rfl) (by kernel_rfl) (gi1 rfl rfl rfl (beT k35)) (fl_lt (lt_fa_box rfl f64_1 ty58 (by decide) rfl))) (owF (by kernel_rfl) (fo_l [] rfl rfl rfl (by kernel_rfl) (by kernel_rfl) (by kernel_rfl) (gi1 rfl rfl rfl (beT k35)) (fl_lt (lt_fa_box rfl f67_0 ty64 (by decide) rfl))) (owF (by kernel_rfl) (fo_l [] rfl rfl rfl (by kernel_rfl) (by kernel_rfl) (by kernel_rfl) (gi1 rfl rfl rfl (beT rfl)) (fl_lt (lt_move rfl rfl))) (owF (by kernel_rfl) (fo_l [] rfl rfl rfl (by kernel_rfl) (by kernel_rfl) (by kernel_rfl) (gi1 rfl rfl rfl (beT rfl)) (fl_lt (lt_int rfl rfl rfl rfl))) (owF (by kernel_rfl) (fo_l [] rfl rfl rfl (by kernel_rfl) (by kernel_rfl) (by kernel_rfl) (gi1 rfl rfl rfl (beT rfl)) (fl_lt (lt_move rfl rfl))) (oE tbok [] 1 (by kernel_rfl) (oL [] rfl (by kernel_rfl) (fl_lt (lt_pickF rfl rfl k22 rfl)) (owF (by kernel_rfl) (fo_s [] rfl rfl rfl (by kernel_rfl) (by kernel_rfl) (by kernel_rfl) (gi1 rfl rfl rfl (beF k22))) (owF (by kernel_rfl) (fo_s [] rfl rfl rfl (by kernel_rfl) (by kernel_rfl) (by kernel_rfl) (gi1 rfl rfl rfl (beF k22))) (owF (by kernel_rfl) (fo_s [] rfl rfl rfl (by kernel_rfl) (by kernel_rfl) (by kernel_rfl) (gi1 rfl rfl rfl (beF k22))) (owF (by kernel_rfl) (fo_s [] rfl rfl rfl (by kernel_rfl) (by kernel_rfl) (by kernel_rfl) (gi1 rfl rfl rfl (beF k22))) (oE tbok [] 3 (by kernel_rfl) trivial))))))))))))))))))))))))) (sub_cons rfl (sub_cons rfl (sub_cons rfl (sub_cons rfl (sub_cons rfl sub_nil))))) wM ?_
                  obtain rfl := retE h
                  refine mN ?_
                  refine w_sub (env' := [(2, [.c (.box 0 0)]), (3, [.c (.box 1 0)]), (5, [.c (.pv (.sl (List.map e_flow_Edge [(flow_Edge.mk 0 1 0 0 0 0 (check_Expr.mk 0 0 0 []) (check_Cond.mk 0 (check_Expr.mk 0 0 0 []) (check_Expr.mk 0 0 0 []))), (flow_Edge.mk 0 1 6 1 0 0 (check_Expr.mk 0 0 0 []) (check_Cond.mk 0 (check_Expr.mk 0 0 0 []) (check_Expr.mk 0 0 0 [])))])))]), (6, [.c (.pv (.int .i64 x1))]), (111, [.c (.pv (.bool (!v29)))])]) (sub_cons rfl (sub_cons rfl (sub_cons rfl (sub_cons rfl (sub_cons rfl sub_nil))))) ?_
                  refine w_cut 2 rfl rfl rfl rfl ?_
                  exact wkE (by kernel_rfl) (by kernel_rfl)
              · have h := iteF h k35
                refine ds (t := 97) 12 rfl ?_
                refine ds (t := 98) 13 rfl ?_
                refine ds (t := 99) 14 rfl ?_
                refine ds (t := 100) 15 rfl ?_
                refine ds (t := 101) 16 rfl ?_
                refine ds (t := 102) 17 rfl ?_
                refine ds (t := 103) 18 rfl ?_
                refine dl (t := 104) 19 [.c (.pv (.bool false))] rfl ?_
                refine dl (t := 105) 20 [.c (.pv (.bool false))] rfl ?_
                refine dl (t := 106) 21 [.c (.pv (.bool false))] rfl ?_
                refine dl (t := 107) 22 [.agg (bs (e_trans_State v10))] rfl ?_
                refine dl (t := 108) 23 [.agg (bs (e_trans_State v11.1))] rfl ?_
                obtain ⟨v31, k43, h⟩ := bindE h
                refine dl (t := 109) 24 [.c (.pv (.bool v31))] rfl ?_
                refine dl (t := 110) 25 [.c (.pv (.bool (!v31)))] rfl ?_
                refine dl (t := 111) 26 [.c (.pv (.bool (!v31)))] rfl ?_
                refine d_endS (env2 := [(111, [.c (.pv (.bool (!v31)))]), (2, [.c (.box 0 0)]), (3, [.c (.box 1 0)]), (5, [.c (.pv (.sl (List.map e_flow_Edge [(flow_Edge.mk 0 1 0 0 0 0 (check_Expr.mk 0 0 0 []) (check_Cond.mk 0 (check_Expr.mk 0 0 0 []) (check_Expr.mk 0 0 0 []))), (flow_Edge.mk 0 1 6 1 0 0 (check_Expr.mk 0 0 0 []) (check_Cond.mk 0 (check_Expr.mk 0 0 0 []) (check_Expr.mk 0 0 0 [])))])))]), (6, [.c (.pv (.int .i64 x1))])]) (wm [0, 1, 3, 7, 7, 31, 63, 127, 255, 511, 1023, 2047, 4095, 8191, 16383, 32767, 65535, 4095, 262143, 524287, 1048575, 2097151, 4194303, 4194303, 16777215, 33554431, 67108863]) (by kernel_rfl) (by kernel_rfl) (by kernel_rfl) (oL [] rfl (by kernel_rfl) (fl_lt (lt_pickF rfl rfl rfl rfl)) (owF (by kernel_rfl) (fo_l [] rfl rfl rfl (by kernel_rfl) (by kernel_rfl) (by kernel_rfl) (gi1 rfl rfl rfl (beT rfl)) (fl_lt (lt_not rfl rfl))) (owF (by kernel_rfl) (fo_l [] rfl rfl rfl (by kernel_rfl) (by kernel_rfl) (by kernel_rfl) (gi1 rfl rfl rfl (beT rfl)) (fl_call rfl Tryz.call19 rfl (by kernel_rfl) (by kernel_rfl) (trans_Within_meets k43))) (owF (by kernel_rfl) (fo_l [] rfl rfl rfl (by kernel_rfl) (by kernel_rfl) (by kernel_rfl) (gi1 rfl rfl rfl (beT rfl)) (fl_lt (lt_load_boxA (ys := (bs (e_trans_State v11.1))) rfl ty67 rfl rfl (by kernel_rfl) (by kernel_rfl)))) (owF (by kernel_rfl) (fo_l [] rfl rfl rfl (by kernel_rfl) (by kernel_rfl) (by kernel_rfl) (gi1 rfl rfl rfl (beT rfl)) (fl_lt (lt_load_boxA (ys := (bs (e_trans_State v10))) rfl ty67 rfl rfl (by kernel_rfl) (by kernel_rfl)))) (oE tbok [] 1 (by kernel_rfl) (oL [] rfl (by kernel_rfl) (fl_lt (lt_pickF rfl rfl rfl rfl)) (owF (by kernel_rfl) (fo_l [] rfl rfl rfl (by kernel_rfl) (by kernel_rfl) (by kernel_rfl) (gi1 rfl rfl rfl (beT rfl)) (fl_lt (lt_pickF rfl rfl k35 rfl))) (owF (by kernel_rfl) (fo_s [] rfl rfl rfl (by kernel_rfl) (by kernel_rfl) (by kernel_rfl) (gi1 rfl rfl rfl (beF k35))) (owF (by kernel_rfl) (fo_s [] rfl rfl rfl (by kernel_rfl) (by kernel_rfl) (by kernel_rfl) (gi1 rfl rfl rfl (beF k35))) (owF (by kernel_rfl) (fo_s [] rfl rfl rfl (by kernel_rfl) (by kernel_rfl) (by kernel_rfl) (gi1 rfl rfl rfl (beF k35))) (owF (by kernel_rfl) (fo_s [] rfl rfl rfl (by kernel_rfl) (by kernel_rfl) (by kernel_rfl) (gi1 rfl rfl rfl (beF k35))) (owF (by kernel_rfl) (fo_s [] rfl rfl rfl (by kernel_rfl) (by kernel_rfl) (by kernel_rfl) (gi1 rfl rfl rfl (beF k35))) (owF (by kernel_rfl) (fo_s [] rfl rfl rfl (by kernel_rfl) (by kernel_rfl) (by kernel_rfl) (gi1 rfl rfl rfl (beF k35))) (owF (by kernel_rfl) (fo_s [] rfl rfl rfl (by kernel_rfl) (by kernel_rfl) (by kernel_rfl) (gi1 rfl rfl rfl (beF k35))) (owF (by kernel_rfl) (fo_l [] rfl rfl rfl (by kernel_rfl) (by kernel_rfl) (by kernel_rfl) (gi1 rfl rfl rfl (beT rfl)) (fl_lt (lt_move rfl rfl))) (owF (by kernel_rfl) (fo_l [] rfl rfl rfl (by kernel_rfl) (by kernel_rfl) (by kernel_rfl) (gi1 rfl rfl rfl (beT rfl)) (fl_lt (lt_int rfl rfl rfl rfl))) (owF (by kernel_rfl) (fo_l [] rfl rfl rfl (by kernel_rfl) (by kernel_rfl) (by kernel_rfl) (gi1 rfl rfl rfl (beT rfl)) (fl_lt (lt_move rfl rfl))) (oE tbok [] 1 (by kernel_rfl) (oL [] rfl (by kernel_rfl) (fl_lt (lt_pickF rfl rfl k22 rfl)) (owF (by kernel_rfl) (fo_s [] rfl rfl rfl (by kernel_rfl) (by kernel_rfl) (by kernel_rfl) (gi1 rfl rfl rfl (beF k22))) (owF (by kernel_rfl) (fo_s [] rfl rfl rfl (by kernel_rfl) (by kernel_rfl) (by kernel_rfl) (gi1 rfl rfl rfl (beF k22))) (owF (by kernel_rfl) (fo_s [] rfl rfl rfl (by kernel_rfl) (by kernel_rfl) (by kernel_rfl) (gi1 rfl rfl rfl (beF k22))) (owF (by kernel_rfl) (fo_s [] rfl rfl rfl (by kernel_rfl) (by kernel_rfl) (by kernel_rfl) (gi1 rfl rfl rfl (beF k22))) (oE tbok [] 3 (by kernel_rfl) trivial))))))))))))))))))))))))) (sub_cons rfl (sub_cons rfl (sub_cons rfl (sub_cons rfl (sub_cons rfl sub_nil))))) wM ?_
                obtain rfl := retE h
                refine mN ?_
                refine w_sub (env' := [(2, [.c (.box 0 0)]), (3, [.c (.box 1 0)]), (5, [.c (.pv (.sl (List.map e_flow_Edge [(flow_Edge.mk 0 1 0 0 0 0 (check_Expr.mk 0 0 0 []) (check_Cond.mk 0 (check_Expr.mk 0 0 0 []) (check_Expr.mk 0 0 0 []))), (flow_Edge.mk 0 1 6 1 0 0 (check_Expr.mk 0 0 0 []) (check_Cond.mk 0 (check_Expr.mk 0 0 0 []) (check_Expr.mk 0 0 0 [])))])))]), (6, [.c (.pv (.int .i64 x1))]), (111, [.c (.pv (.bool (!v31)))])]) (sub_cons rfl (sub_cons rfl (sub_cons rfl (sub_cons rfl (sub_cons rfl sub_nil))))) ?_
                refine w_cut 2 rfl rfl rfl rfl ?_
                exact wkE (by kernel_rfl) (by kernel_rfl)
          · refine then_ ?_
            refine cond_ (b := j3) rfl (fun k44 => ?_) (fun k44 => ?_)
            · have h := iteT h k44
              refine seq_ ?_
              refine region_ ?_
              refine R tbok 1 [4, 2, 3, 5, 6] [(4, [.c (.pv (.bool false))]), (2, [.c (.box 0 0)]), (3, [.c (.box 1 0)]), (5, [.c (.pv (.sl (List.map e_flow_Edge [(flow_Edge.mk 0 1 0 0 0 0 (check_Expr.mk 0 0 0 []) (check_Cond.mk 0 (check_Expr.mk 0 0 0 []) (check_Expr.mk 0 0 0 []))), (flow_Edge.mk 0 1 6 1 0 0 (check_Expr.mk 0 0 0 []) (check_Cond.mk 0 (check_Expr.mk 0 0 0 []) (check_Expr.mk 0 0 0 [])))])))]), (6, [.c (.pv (.int .i64 x1))])] (by kernel_rfl) ?_
              refine ops_nil ?_
              refine then_ ?_
              refine ret_ ?_
              obtain rfl := retE h
              refine bR (tR (lR (rw_ (.tmp rfl .nil) ?_)))
              refine w_none 0 .z ?_
              refine w_none 1 (.s .z) ?_
              refine w_cut 0 rfl rfl rfl rfl ?_
              exact wkE (by kernel_rfl) (by kernel_rfl)
            · have h := iteF h k44
              refine skip_ ?_
              refine bN ?_
              refine then_ ?_
              refine region_ ?_
              refine R tbok 3 [6, 2, 3, 5] [(6, [.c (.pv (.int .i64 (IntKind.i64.wrap (x1 + 1))))]), (2, [.c (.box 0 0)]), (3, [.c (.box 1 0)]), (5, [.c (.pv (.sl (List.map e_flow_Edge [(flow_Edge.mk 0 1 0 0 0 0 (check_Expr.mk 0 0 0 []) (check_Cond.mk 0 (check_Expr.mk 0 0 0 []) (check_Expr.mk 0 0 0 []))), (flow_Edge.mk 0 1 6 1 0 0 (check_Expr.mk 0 0 0 []) (check_Cond.mk 0 (check_Expr.mk 0 0 0 []) (check_Expr.mk 0 0 0 [])))])))])] (by kernel_rfl) ?_
              refine ops_nil ?_
              obtain rfl := retE h
              refine lN ?_
              refine w_sub (env' := [(2, [.c (.box 0 0)]), (3, [.c (.box 1 0)]), (5, [.c (.pv (.sl (List.map e_flow_Edge [(flow_Edge.mk 0 1 0 0 0 0 (check_Expr.mk 0 0 0 []) (check_Cond.mk 0 (check_Expr.mk 0 0 0 []) (check_Expr.mk 0 0 0 []))), (flow_Edge.mk 0 1 6 1 0 0 (check_Expr.mk 0 0 0 []) (check_Cond.mk 0 (check_Expr.mk 0 0 0 []) (check_Expr.mk 0 0 0 [])))])))]), (6, [.c (.pv (.int .i64 (IntKind.i64.wrap (x1 + 1))))])]) (sub_cons rfl (sub_cons rfl (sub_cons rfl (sub_cons rfl sub_nil)))) ?_
              exact wkE (by kernel_rfl) (by kernel_rfl)
    · have h := iteF h k1
      refine exit_ ?_
      refine tX ?_
      obtain rfl := retE h
      refine lX ?_
      refine w_sub (env' := []) sub_nil ?_
      refine w_cut 0 rfl rfl rfl rfl ?_
      exact wkE (by kernel_rfl) (by kernel_rfl)
  · have h := elimL h
    obtain rfl := retE h
    exact (tR (rwr hs))
  · have h := elimR h
    refine then_ ?_
    refine seq_ ?_
    refine region_ ?_
    obtain ⟨v32, k45, h⟩ := bindE h
    refine C rfl rfl (fl_call rfl Tryz.call10 rfl (by kernel_rfl) (by kernel_rfl) (l14_steps_meets k45)) rfl ?_
    refine R tbok 1 [4] [(4, [.c (.pv (.bool v32))])] (by kernel_rfl) ?_
    refine ops_nil ?_
    refine then_ ?_
    refine ret_ ?_
    obtain rfl := retE h
    refine rwr (rw_ (.tmp rfl .nil) ?_)
    exact wkE (by kernel_rfl) (by kernel_rfl)
end Go.Proofs.YtbebnddalipfhaaGreat.Abs
