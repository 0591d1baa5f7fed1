/- Gb: the walks. -/
import Derived.Test.YtbebnddalipfhaaGbW3
namespace Go.Proofs.Ytbebnddalipfhaa.Abs
open Go Go.RowKit
set_option linter.unusedVariables false
set_option maxRecDepth 100000
set_option maxHeartbeats 4000000
theorem l14_TransSends_meets {a0 : Int} {a1 : Int} {a2 : Int} {r : Bool} (h : l14_TransSends a0 a1 a2 = some r) : MeetsV Try.prog GG 4 [.c (.pv (.int .i64 a0)), .c (.pv (.int .i64 a1)), .c (.pv (.int .i64 a2))] [.c (.pv (.bool r))] := by
  refine MeetsS.toV (meetsW_of (st0 := []) (N := 162) r_l14_TransSends o_l14_TransSends r Try.func4 rfl rfl rfl (by dsimp only [argEnv]) rfl ?_) rfl
  unfold l14_TransSends at h
  refine seq_ ?_
  refine region_ ?_
  refine R tbok 1 [6, 0, 1, 2] [(6, [.c (.pv (.bool false))]), (0, [.c (.pv (.int .i64 a0))]), (1, [.c (.pv (.int .i64 a1))]), (2, [.c (.pv (.int .i64 a2))])] (by kernel_rfl) ?_
  refine ops_nil ?_
  refine then_ ?_
  refine seq_ ?_
  refine region_ ?_
  refine R tbok 2 [18, 6, 1, 2] [(18, [.c (.pv (.int .u64 (IntKind.u64.wrap a0)))]), (6, [.c (.pv (.bool false))]), (1, [.c (.pv (.int .i64 a1))]), (2, [.c (.pv (.int .i64 a2))])] (by kernel_rfl) ?_
  obtain ⟨v1, k1, h⟩ := bindE h
  refine L rfl rfl (rem_ rfl rfl rfl k1) rfl ?_
  refine R tbok 3 [22, 20, 6, 2] [(22, [.c (.pv (.int .u64 (IntKind.u64.wrap a1)))]), (20, [.c (.pv (.int .i64 (IntKind.i64.wrap v1)))]), (6, [.c (.pv (.bool false))]), (2, [.c (.pv (.int .i64 a2))])] (by kernel_rfl) ?_
  obtain ⟨v2, k2, h⟩ := bindE h
  refine L rfl rfl (rem_ rfl rfl rfl k2) rfl ?_
  refine R tbok 2 [25, 20, 6, 2] [(25, [.c (.pv (.int .i64 (IntKind.i64.wrap (1 + (IntKind.i64.wrap v2)))))]), (20, [.c (.pv (.int .i64 (IntKind.i64.wrap v1)))]), (6, [.c (.pv (.bool false))]), (2, [.c (.pv (.int .i64 a2))])] (by kernel_rfl) ?_
  refine L rfl rfl (lt_build (cs := [.pv (.int .i64 (IntKind.i64.wrap v1)), .pv (.int .i64 (IntKind.i64.wrap (1 + (IntKind.i64.wrap v2)))), .pv (.int .i64 0), .pv (.int .i64 1), .pv (.int .i64 1), .emp]) rfl st73 rfl (by kernel_rfl)) rfl ?_
  refine B rfl rfl (bir_alloc rfl z73 rfl rfl) rfl rfl .z ?_
  refine S rfl rfl rfl ty73 (by decide) rfl rfl rfl rfl rfl (.all rfl) .z ?_
  refine ops_nil ?_
  refine then_ ?_
  refine seq_ ?_
  refine region_ ?_
  refine R tbok 2 [28, 7, 6] [(28, [.c (.pv (.int .u64 (IntKind.u64.wrap a2)))]), (7, [.c (.box 0 0)]), (6, [.c (.pv (.bool false))])] (by kernel_rfl) ?_
  obtain ⟨v3, k3, h⟩ := bindE h
  refine L rfl rfl (rem_ rfl rfl rfl k3) rfl ?_
  refine R tbok 2 [8, 7, 6] [(8, [.c (.pv (.int .i64 (IntKind.i64.wrap v3)))]), (7, [.c (.box 0 0)]), (6, [.c (.pv (.bool false))])] (by kernel_rfl) ?_
  refine ops_nil ?_
  refine then_ ?_
  refine seq_ ?_
  refine region_ ?_
  refine R tbok 1 [31, 8, 7, 6] [(31, [.agg [.pv (.int .i64 (IntKind.i64.wrap v1)), .pv (.int .i64 (IntKind.i64.wrap (1 + (IntKind.i64.wrap v2)))), .pv (.int .i64 0), .pv (.int .i64 1), .pv (.int .i64 1), .emp]]), (8, [.c (.pv (.int .i64 (IntKind.i64.wrap v3)))]), (7, [.c (.box 0 0)]), (6, [.c (.pv (.bool false))])] (by kernel_rfl) ?_
  refine C rfl rfl (fl_slice (List.map e_check_Chan [(check_Chan.mk (IntKind.i64.wrap v1) (IntKind.i64.wrap (1 + (IntKind.i64.wrap v2))) 0 1 1 [])]) rfl sl37 rfl rfl rfl rfl rfl rfl rfl) rfl ?_
  refine L rfl rfl (lt_build (cs := [.pv (.int .i64 1), .pv (.int .i64 5), .pv (.int .i64 0), .emp]) rfl st25 rfl (by kernel_rfl)) rfl ?_
  refine L rfl rfl (lt_build (cs := [.pv (.int .i64 0), .pv (.int .i64 1), .pv (.int .i64 3), .pv (.int .i64 0), .pv (.int .i64 0), .pv (.int .i64 0), .pv (.int .i64 1), .pv (.int .i64 5), .pv (.int .i64 0), .emp, .pv (.int .i64 0), .pv (.int .i64 0), .pv (.int .i64 0), .pv (.int .i64 0), .emp, .pv (.int .i64 0), .pv (.int .i64 0), .pv (.int .i64 0), .emp]) rfl st31 rfl (by kernel_rfl)) rfl ?_
  refine C rfl rfl (fl_slice (cs := [.pv (.int .i64 0), .pv (.int .i64 1), .pv (.int .i64 3), .pv (.int .i64 0), .pv (.int .i64 0), .pv (.int .i64 0), .pv (.int .i64 1), .pv (.int .i64 5), .pv (.int .i64 0), .emp, .pv (.int .i64 0), .pv (.int .i64 0), .pv (.int .i64 0), .pv (.int .i64 0), .emp, .pv (.int .i64 0), .pv (.int .i64 0), .pv (.int .i64 0), .emp]) (pv := [.int .i64 0, .int .i64 1, .int .i64 3, .int .i64 0, .int .i64 0, .int .i64 0, .int .i64 1, .int .i64 5, .int .i64 0, .sl [], .int .i64 0, .int .i64 0, .int .i64 0, .int .i64 0, .sl [], .int .i64 0, .int .i64 0, .int .i64 0, .sl []]) (List.map e_flow_Edge [(flow_Edge.mk 0 1 3 0 0 0 (check_Expr.mk 1 5 0 []) (check_Cond.mk 0 (check_Expr.mk 0 0 0 []) (check_Expr.mk 0 0 0 [])))]) rfl sl32 rfl rfl (by kernel_rfl) (by kernel_rfl) (by kernel_rfl) rfl rfl) rfl ?_
  refine L rfl rfl (lt_build (cs := [.pv (.int .i64 2), .pv (.sl (List.map e_flow_Edge [(flow_Edge.mk 0 1 3 0 0 0 (check_Expr.mk 1 5 0 []) (check_Cond.mk 0 (check_Expr.mk 0 0 0 []) (check_Expr.mk 0 0 0 [])))])), .emp]) rfl st35 rfl (by kernel_rfl)) rfl ?_
  refine L rfl rfl (lt_build (cs := [.pv (.int .i64 0), .pv (.int .i64 1), .pv (.int .i64 0), .pv (.int .i64 0), .pv (.int .i64 0), .pv (.int .i64 0), .pv (.int .i64 0), .pv (.int .i64 0), .pv (.int .i64 0), .emp, .pv (.int .i64 0), .pv (.int .i64 0), .pv (.int .i64 0), .pv (.int .i64 0), .emp, .pv (.int .i64 0), .pv (.int .i64 0), .pv (.int .i64 0), .emp]) rfl st31 rfl (by kernel_rfl)) rfl ?_
  refine C rfl rfl (fl_slice (cs := [.pv (.int .i64 0), .pv (.int .i64 1), .pv (.int .i64 0), .pv (.int .i64 0), .pv (.int .i64 0), .pv (.int .i64 0), .pv (.int .i64 0), .pv (.int .i64 0), .pv (.int .i64 0), .emp, .pv (.int .i64 0), .pv (.int .i64 0), .pv (.int .i64 0), .pv (.int .i64 0), .emp, .pv (.int .i64 0), .pv (.int .i64 0), .pv (.int .i64 0), .emp]) (pv := [.int .i64 0, .int .i64 1, .int .i64 0, .int .i64 0, .int .i64 0, .int .i64 0, .int .i64 0, .int .i64 0, .int .i64 0, .sl [], .int .i64 0, .int .i64 0, .int .i64 0, .int .i64 0, .sl [], .int .i64 0, .int .i64 0, .int .i64 0, .sl []]) (List.map e_flow_Edge [(flow_Edge.mk 0 1 0 0 0 0 (check_Expr.mk 0 0 0 []) (check_Cond.mk 0 (check_Expr.mk 0 0 0 []) (check_Expr.mk 0 0 0 [])))]) rfl sl32 rfl rfl (by kernel_rfl) (by kernel_rfl) (by kernel_rfl) rfl rfl) rfl ?_
  refine L rfl rfl (lt_build (cs := [.pv (.int .i64 2), .pv (.sl (List.map e_flow_Edge [(flow_Edge.mk 0 1 0 0 0 0 (check_Expr.mk 0 0 0 []) (check_Cond.mk 0 (check_Expr.mk 0 0 0 []) (check_Expr.mk 0 0 0 [])))])), .emp]) rfl st35 rfl (by kernel_rfl)) rfl ?_
  refine C rfl rfl (fl_slice (List.map e_flow_Graph [(flow_Graph.mk 2 [(flow_Edge.mk 0 1 3 0 0 0 (check_Expr.mk 1 5 0 []) (check_Cond.mk 0 (check_Expr.mk 0 0 0 []) (check_Expr.mk 0 0 0 [])))] []), (flow_Graph.mk 2 [(flow_Edge.mk 0 1 0 0 0 0 (check_Expr.mk 0 0 0 []) (check_Cond.mk 0 (check_Expr.mk 0 0 0 []) (check_Expr.mk 0 0 0 [])))] [])]) rfl sl36 rfl rfl rfl rfl rfl rfl rfl) rfl ?_
  refine C rfl rfl (fl_slice (List.map e_i64 [0, 0]) rfl sl33 rfl rfl rfl rfl rfl rfl rfl) rfl ?_
  refine L rfl rfl (lt_build (cs := [.pv (.sl (List.map e_check_Chan [(check_Chan.mk (IntKind.i64.wrap v1) (IntKind.i64.wrap (1 + (IntKind.i64.wrap v2))) 0 1 1 [])])), .pv (.sl (List.map e_flow_Graph [(flow_Graph.mk 2 [(flow_Edge.mk 0 1 3 0 0 0 (check_Expr.mk 1 5 0 []) (check_Cond.mk 0 (check_Expr.mk 0 0 0 []) (check_Expr.mk 0 0 0 [])))] []), (flow_Graph.mk 2 [(flow_Edge.mk 0 1 0 0 0 0 (check_Expr.mk 0 0 0 []) (check_Cond.mk 0 (check_Expr.mk 0 0 0 []) (check_Expr.mk 0 0 0 [])))] [])])), .pv (.sl (List.map e_i64 [0, 0]))]) rfl st39 rfl (by kernel_rfl)) rfl ?_
  refine B rfl rfl (bir_alloc rfl z39 rfl rfl) rfl rfl (.s .z) ?_
  refine S rfl rfl rfl ty39 (by decide) rfl rfl rfl rfl rfl (.all rfl) (.s .z) ?_
  refine ops_nil ?_
  refine then_ ?_
  refine seq_ ?_
  refine drawn_ mixed ?_
  refine dl (t := 43) 0 [.agg [.pv (.sl (List.map e_check_Chan [(check_Chan.mk (IntKind.i64.wrap v1) (IntKind.i64.wrap (1 + (IntKind.i64.wrap v2))) 0 1 1 [])])), .pv (.sl (List.map e_flow_Graph [(flow_Graph.mk 2 [(flow_Edge.mk 0 1 3 0 0 0 (check_Expr.mk 1 5 0 []) (check_Cond.mk 0 (check_Expr.mk 0 0 0 []) (check_Expr.mk 0 0 0 [])))] []), (flow_Graph.mk 2 [(flow_Edge.mk 0 1 0 0 0 0 (check_Expr.mk 0 0 0 []) (check_Cond.mk 0 (check_Expr.mk 0 0 0 []) (check_Expr.mk 0 0 0 [])))] [])])), .pv (.sl (List.map e_i64 [0, 0]))]] rfl ?_
  refine dl (t := 44) 1 [.agg [.pv (.int .i64 (IntKind.i64.wrap v1)), .pv (.int .i64 (IntKind.i64.wrap (1 + (IntKind.i64.wrap v2)))), .pv (.int .i64 0), .pv (.int .i64 1), .pv (.int .i64 1), .emp]] rfl ?_
  obtain ⟨v5, k5, h⟩ := bindE h
  refine dl (t := 45) 2 [.agg [.pv (.int .i64 v5.Len.Lo), .pv (.int .i64 v5.Len.Hi), .pv (.sl (List.map e_itv_Itv v5.Vals))]] rfl ?_
  refine dl (t := 46) 3 [.c (.pv (.sl (List.map e_queue_Elem [v5])))] rfl ?_
  refine dl (t := 47) 4 [.agg [.pv (.sl (List.map e_check_Chan [(check_Chan.mk (IntKind.i64.wrap v1) (IntKind.i64.wrap (1 + (IntKind.i64.wrap v2))) 0 1 1 [])])), .pv (.sl (List.map e_flow_Graph [(flow_Graph.mk 2 [(flow_Edge.mk 0 1 3 0 0 0 (check_Expr.mk 1 5 0 []) (check_Cond.mk 0 (check_Expr.mk 0 0 0 []) (check_Expr.mk 0 0 0 [])))] []), (flow_Graph.mk 2 [(flow_Edge.mk 0 1 0 0 0 0 (check_Expr.mk 0 0 0 []) (check_Cond.mk 0 (check_Expr.mk 0 0 0 []) (check_Expr.mk 0 0 0 [])))] [])])), .pv (.sl (List.map e_i64 [0, 0]))]] rfl ?_
  obtain ⟨v7, k7, h⟩ := bindE h
  refine dl (t := 48) 5 [.c (.pv (.sl (List.map e_bool v7)))] rfl ?_
  refine dl (t := 49) 6 [.agg [.pv (.sl (List.map e_check_Chan [(check_Chan.mk (IntKind.i64.wrap v1) (IntKind.i64.wrap (1 + (IntKind.i64.wrap v2))) 0 1 1 [])])), .pv (.sl (List.map e_flow_Graph [(flow_Graph.mk 2 [(flow_Edge.mk 0 1 3 0 0 0 (check_Expr.mk 1 5 0 []) (check_Cond.mk 0 (check_Expr.mk 0 0 0 []) (check_Expr.mk 0 0 0 [])))] []), (flow_Graph.mk 2 [(flow_Edge.mk 0 1 0 0 0 0 (check_Expr.mk 0 0 0 []) (check_Cond.mk 0 (check_Expr.mk 0 0 0 []) (check_Expr.mk 0 0 0 [])))] [])])), .pv (.sl (List.map e_i64 [0, 0])), .pv (.sl (List.map e_queue_Elem [v5])), .pv (.sl (List.map e_bool v7))]] rfl ?_
  refine db (t := 10) 7 2 [.c (.box 2 0)] ((.box true 61 [.emp, .emp, .emp, .emp, .emp])) rfl rfl (Push.eq (.s (.s .z))) ?_
  refine d_store (wm [0, 0, 2, 6, 0, 22, 63, 0, 255]) 8 rfl (by kernel_rfl) (by kernel_rfl) (by kernel_rfl) (by kernel_rfl) (by kernel_rfl) (gi0 rfl) (owF (by kernel_rfl) (fo_b [2] rfl rfl rfl (by kernel_rfl) (by kernel_rfl) (by kernel_rfl) (gi0 rfl) (bir_alloc rfl z61 rfl rfl) (by kernel_rfl) (by kernel_rfl)) (oL [2] rfl (by kernel_rfl) (fl_lt (lt_build (cs := [.pv (.sl (List.map e_check_Chan [(check_Chan.mk (IntKind.i64.wrap v1) (IntKind.i64.wrap (1 + (IntKind.i64.wrap v2))) 0 1 1 [])])), .pv (.sl (List.map e_flow_Graph [(flow_Graph.mk 2 [(flow_Edge.mk 0 1 3 0 0 0 (check_Expr.mk 1 5 0 []) (check_Cond.mk 0 (check_Expr.mk 0 0 0 []) (check_Expr.mk 0 0 0 [])))] []), (flow_Graph.mk 2 [(flow_Edge.mk 0 1 0 0 0 0 (check_Expr.mk 0 0 0 []) (check_Cond.mk 0 (check_Expr.mk 0 0 0 []) (check_Expr.mk 0 0 0 [])))] [])])), .pv (.sl (List.map e_i64 [0, 0])), .pv (.sl (List.map e_queue_Elem [v5])), .pv (.sl (List.map e_bool v7))]) rfl st61 rfl (by kernel_rfl))) (oL [2] rfl (by kernel_rfl) (fl_call rfl Try.call14 rfl (by kernel_rfl) (by kernel_rfl) (trans_Deaf_meets k7)) (oE tbok [2] 1 (by kernel_rfl) (oL [2] rfl (by kernel_rfl) (fl_slice (List.map e_queue_Elem [v5]) rfl sl58 rfl rfl rfl rfl rfl rfl rfl) (oL [2] rfl (by kernel_rfl) (fl_call rfl Try.call13 rfl (by kernel_rfl) (by kernel_rfl) (queue_None_meets k5)) (oE tbok [2] 2 (by kernel_rfl) trivial))))))) rfl rfl ty61 rfl rfl rfl rfl rfl rfl (putE 5 (.all rfl) rfl (by decide)) (SetAt.eq (.s (.s .z))) ?_
  refine d_endS (env2 := [(10, [.c (.box 2 0)]), (9, [.c (.box 1 0)]), (8, [.c (.pv (.int .i64 (IntKind.i64.wrap v3)))]), (7, [.c (.box 0 0)]), (6, [.c (.pv (.bool false))])]) (wm [0, 0, 2, 6, 0, 22, 63, 0, 255]) (by kernel_rfl) (by kernel_rfl) (by kernel_rfl) (oN 9 (by kernel_rfl) trivial) (sub_cons rfl (sub_cons rfl (sub_cons rfl (sub_cons rfl (sub_cons rfl sub_nil))))) wT ?_
  refine then_ ?_
  refine seq_ ?_
  refine region_ ?_
  refine R tbok 1 [50, 10, 8, 7, 6] [(50, [.agg [.pv (.sl (List.map e_check_Chan [(check_Chan.mk (IntKind.i64.wrap v1) (IntKind.i64.wrap (1 + (IntKind.i64.wrap v2))) 0 1 1 [])])), .pv (.sl (List.map e_flow_Graph [(flow_Graph.mk 2 [(flow_Edge.mk 0 1 3 0 0 0 (check_Expr.mk 1 5 0 []) (check_Cond.mk 0 (check_Expr.mk 0 0 0 []) (check_Expr.mk 0 0 0 [])))] []), (flow_Graph.mk 2 [(flow_Edge.mk 0 1 0 0 0 0 (check_Expr.mk 0 0 0 []) (check_Cond.mk 0 (check_Expr.mk 0 0 0 []) (check_Expr.mk 0 0 0 [])))] [])])), .pv (.sl (List.map e_i64 [0, 0]))]]), (10, [.c (.box 2 0)]), (8, [.c (.pv (.int .i64 (IntKind.i64.wrap v3)))]), (7, [.c (.box 0 0)]), (6, [.c (.pv (.bool false))])] (by kernel_rfl) ?_
  obtain ⟨v8, k8, h⟩ := bindE h
  refine C rfl rfl (fl_call rfl Try.call6 rfl (by kernel_rfl) (by kernel_rfl) (trans_Start_meets k8)) rfl ?_
  refine B rfl rfl (bir_alloc rfl z49 rfl rfl) rfl rfl (.s (.s (.s .z))) ?_
  refine S rfl rfl rfl ty49 (by decide) rfl rfl rfl rfl rfl (.all rfl) (.s (.s (.s .z))) ?_
  refine ops_nil ?_
  refine then_ ?_
  refine seq_ ?_
  refine seq_ ?_
  refine region_ ?_
  refine R tbok 1 [12, 11, 10, 8, 7, 6] [(12, [.c (.pv (.int .i64 0))]), (11, [.c (.box 3 0)]), (10, [.c (.box 2 0)]), (8, [.c (.pv (.int .i64 (IntKind.i64.wrap v3)))]), (7, [.c (.box 0 0)]), (6, [.c (.pv (.bool false))])] (by kernel_rfl) ?_
  refine ops_nil ?_
  refine then_ ?_
  refine lp_ (Qr := RW Try.prog GG Try.f4 0 r_l14_TransSends o_l14_TransSends) (l14_TransSends_l1 v1 v2 v3 v5 v7) (fun (x1 : (Int × trans_State)) => (⟨162, 0, [(7, [.c (.box 0 0)]), (8, [.c (.pv (.int .i64 (IntKind.i64.wrap v3)))]), (10, [.c (.box 2 0)]), (11, [.c (.box 3 0)]), (12, [.c (.pv (.int .i64 x1.1))])], [some (.box true 73 [.pv (.int .i64 (IntKind.i64.wrap v1)), .pv (.int .i64 (IntKind.i64.wrap (1 + (IntKind.i64.wrap v2)))), .pv (.int .i64 0), .pv (.int .i64 1), .pv (.int .i64 1), .emp]), none, some (.box true 61 [.pv (.sl (List.map e_check_Chan [(check_Chan.mk (IntKind.i64.wrap v1) (IntKind.i64.wrap (1 + (IntKind.i64.wrap v2))) 0 1 1 [])])), .pv (.sl (List.map e_flow_Graph [(flow_Graph.mk 2 [(flow_Edge.mk 0 1 3 0 0 0 (check_Expr.mk 1 5 0 []) (check_Cond.mk 0 (check_Expr.mk 0 0 0 []) (check_Expr.mk 0 0 0 [])))] []), (flow_Graph.mk 2 [(flow_Edge.mk 0 1 0 0 0 0 (check_Expr.mk 0 0 0 []) (check_Cond.mk 0 (check_Expr.mk 0 0 0 []) (check_Expr.mk 0 0 0 [])))] [])])), .pv (.sl (List.map e_i64 [0, 0])), .pv (.sl (List.map e_queue_Elem [v5])), .pv (.sl (List.map e_bool v7))]), some (.box true 49 (bs (e_trans_State x1.2)))]⟩ : Sx)) (fun (j1 : Unit) => (⟨162, 0, [(10, [.c (.box 2 0)])], [none, none, some (.box true 61 [.pv (.sl (List.map e_check_Chan [(check_Chan.mk (IntKind.i64.wrap v1) (IntKind.i64.wrap (1 + (IntKind.i64.wrap v2))) 0 1 1 [])])), .pv (.sl (List.map e_flow_Graph [(flow_Graph.mk 2 [(flow_Edge.mk 0 1 3 0 0 0 (check_Expr.mk 1 5 0 []) (check_Cond.mk 0 (check_Expr.mk 0 0 0 []) (check_Expr.mk 0 0 0 [])))] []), (flow_Graph.mk 2 [(flow_Edge.mk 0 1 0 0 0 0 (check_Expr.mk 0 0 0 []) (check_Cond.mk 0 (check_Expr.mk 0 0 0 []) (check_Expr.mk 0 0 0 [])))] [])])), .pv (.sl (List.map e_i64 [0, 0])), .pv (.sl (List.map e_queue_Elem [v5])), .pv (.sl (List.map e_bool v7))])]⟩ : Sx)) (0, v8) RW.only h wT ?_ (fun x1 o h => ?_) (fun r h s' hs => ?_) (fun j1 h => ?_)
  · refine w_sub (env' := [(7, [.c (.box 0 0)]), (8, [.c (.pv (.int .i64 (IntKind.i64.wrap v3)))]), (10, [.c (.box 2 0)]), (11, [.c (.box 3 0)]), (12, [.c (.pv (.int .i64 0))])]) (sub_cons rfl (sub_cons rfl (sub_cons rfl (sub_cons rfl (sub_cons rfl sub_nil))))) ?_
    refine w_none 1 (.s .z) ?_
    exact wkE (by kernel_rfl) (by kernel_rfl)
  · unfold l14_TransSends_l1 at h
    refine seq_ ?_
    refine seq_ ?_
    refine region_ ?_
    refine R tbok 3 [54, 7, 8, 10, 11, 12] [(54, [.c (.pv (.bool (decide (x1.1 < (IntKind.i64.wrap v3)))))]), (7, [.c (.box 0 0)]), (8, [.c (.pv (.int .i64 (IntKind.i64.wrap v3)))]), (10, [.c (.box 2 0)]), (11, [.c (.box 3 0)]), (12, [.c (.pv (.int .i64 x1.1))])] (by kernel_rfl) ?_
    refine ops_nil ?_
    refine then_ ?_
    refine cond_ (b := (decide (x1.1 < (IntKind.i64.wrap v3)))) rfl (fun k9 => ?_) (fun k9 => ?_)
    · have h := iteT h k9
      refine skip_ ?_
      refine then_ ?_
      refine seq_ ?_
      refine block_ ?_
      refine seq_ ?_
      refine region_ ?_
      refine R tbok 2 [59, 58, 7, 8, 10, 11, 12] [(59, [.agg (bs (e_trans_State x1.2))]), (58, [.agg [.pv (.sl (List.map e_check_Chan [(check_Chan.mk (IntKind.i64.wrap v1) (IntKind.i64.wrap (1 + (IntKind.i64.wrap v2))) 0 1 1 [])])), .pv (.sl (List.map e_flow_Graph [(flow_Graph.mk 2 [(flow_Edge.mk 0 1 3 0 0 0 (check_Expr.mk 1 5 0 []) (check_Cond.mk 0 (check_Expr.mk 0 0 0 []) (check_Expr.mk 0 0 0 [])))] []), (flow_Graph.mk 2 [(flow_Edge.mk 0 1 0 0 0 0 (check_Expr.mk 0 0 0 []) (check_Cond.mk 0 (check_Expr.mk 0 0 0 []) (check_Expr.mk 0 0 0 [])))] [])])), .pv (.sl (List.map e_i64 [0, 0])), .pv (.sl (List.map e_queue_Elem [v5])), .pv (.sl (List.map e_bool v7))]]), (7, [.c (.box 0 0)]), (8, [.c (.pv (.int .i64 (IntKind.i64.wrap v3)))]), (10, [.c (.box 2 0)]), (11, [.c (.box 3 0)]), (12, [.c (.pv (.int .i64 x1.1))])] (by kernel_rfl) ?_
      obtain ⟨v9, k10, h⟩ := bindE h
      refine C rfl rfl (fl_call rfl Try.call8 rfl (by kernel_rfl) (by kernel_rfl) (trans_Step_meets k10)) rfl ?_
      refine R tbok 4 [63, 62, 61, 7, 8, 10, 11, 12] [(63, [.c (.pv (.sl (List.map e_i64 v9.2.2)))]), (62, [.agg [.pv (.int .i64 v9.2.1.Chan), .pv (.int .i64 v9.2.1.Tag), .pv (.int .i64 v9.2.1.Vals.Lo), .pv (.int .i64 v9.2.1.Vals.Hi)]]), (61, [.agg (bs (e_trans_State v9.1))]), (7, [.c (.box 0 0)]), (8, [.c (.pv (.int .i64 (IntKind.i64.wrap v3)))]), (10, [.c (.box 2 0)]), (11, [.c (.box 3 0)]), (12, [.c (.pv (.int .i64 x1.1))])] (by kernel_rfl) ?_
      refine B rfl rfl (bir_alloc rfl z49 rfl rfl) rfl rfl (.s (.s (.s (.s .z)))) ?_
      refine B rfl rfl (bir_alloc rfl z55 rfl rfl) rfl rfl (.s (.s (.s (.s (.s .z))))) ?_
      refine S rfl rfl rfl ty49 (by decide) rfl rfl rfl rfl rfl (.all rfl) (.s (.s (.s (.s .z)))) ?_
      refine S rfl rfl rfl ty55 (by decide) rfl rfl rfl rfl rfl (.all rfl) (.s (.s (.s (.s (.s .z))))) ?_
      refine R tbok 1 [15, 14, 13, 7, 8, 10, 11, 12] [(15, [.c (.pv (.sl (List.map e_i64 v9.2.2)))]), (14, [.c (.box 5 0)]), (13, [.c (.box 4 0)]), (7, [.c (.box 0 0)]), (8, [.c (.pv (.int .i64 (IntKind.i64.wrap v3)))]), (10, [.c (.box 2 0)]), (11, [.c (.box 3 0)]), (12, [.c (.pv (.int .i64 x1.1))])] (by kernel_rfl) ?_
      refine ops_nil ?_
      refine then_ ?_
      refine seq_ ?_
      refine region_ ?_
      refine R tbok 5 [16, 15, 14, 13, 7, 8, 10, 11, 12] [(16, [.c (.pv (.bool (decide (x1.1 ≥ (IntKind.i64.wrap (1 + (IntKind.i64.wrap v2)))))))]), (15, [.c (.pv (.sl (List.map e_i64 v9.2.2)))]), (14, [.c (.box 5 0)]), (13, [.c (.box 4 0)]), (7, [.c (.box 0 0)]), (8, [.c (.pv (.int .i64 (IntKind.i64.wrap v3)))]), (10, [.c (.box 2 0)]), (11, [.c (.box 3 0)]), (12, [.c (.pv (.int .i64 x1.1))])] (by kernel_rfl) ?_
      refine ops_nil ?_
      refine then_ ?_
      refine seq_ ?_
      refine jr_ (Qr := RW Try.prog GG Try.f4 0 r_l14_TransSends o_l14_TransSends) (fun (j2 : Unit) => (⟨162, 0, [(7, [.c (.box 0 0)]), (8, [.c (.pv (.int .i64 (IntKind.i64.wrap v3)))]), (10, [.c (.box 2 0)]), (11, [.c (.box 3 0)]), (12, [.c (.pv (.int .i64 x1.1))]), (13, [.c (.box 4 0)])], [some (.box true 73 [.pv (.int .i64 (IntKind.i64.wrap v1)), .pv (.int .i64 (IntKind.i64.wrap (1 + (IntKind.i64.wrap v2)))), .pv (.int .i64 0), .pv (.int .i64 1), .pv (.int .i64 1), .emp]), none, some (.box true 61 [.pv (.sl (List.map e_check_Chan [(check_Chan.mk (IntKind.i64.wrap v1) (IntKind.i64.wrap (1 + (IntKind.i64.wrap v2))) 0 1 1 [])])), .pv (.sl (List.map e_flow_Graph [(flow_Graph.mk 2 [(flow_Edge.mk 0 1 3 0 0 0 (check_Expr.mk 1 5 0 []) (check_Cond.mk 0 (check_Expr.mk 0 0 0 []) (check_Expr.mk 0 0 0 [])))] []), (flow_Graph.mk 2 [(flow_Edge.mk 0 1 0 0 0 0 (check_Expr.mk 0 0 0 []) (check_Cond.mk 0 (check_Expr.mk 0 0 0 []) (check_Expr.mk 0 0 0 [])))] [])])), .pv (.sl (List.map e_i64 [0, 0])), .pv (.sl (List.map e_queue_Elem [v5])), .pv (.sl (List.map e_bool v7))]), some (.box true 49 (bs (e_trans_State x1.2))), some (.box true 49 (bs (e_trans_State v9.1)))]⟩ : Sx)) RW.only h wT (fun o h => ?_) (fun r h s' hs => ?_) (fun j2 h => ?_)
      · refine block_ ?_
        refine seq_ ?_
        refine jn_ (fun (j3 : Bool) => (⟨162, 0, [(7, [.c (.box 0 0)]), (8, [.c (.pv (.int .i64 (IntKind.i64.wrap v3)))]), (10, [.c (.box 2 0)]), (11, [.c (.box 3 0)]), (12, [.c (.pv (.int .i64 x1.1))]), (13, [.c (.box 4 0)]), (14, [.c (.box 5 0)]), (15, [.c (.pv (.sl (List.map e_i64 v9.2.2)))]), (16, [.c (.pv (.bool (decide (x1.1 ≥ (IntKind.i64.wrap (1 + (IntKind.i64.wrap v2)))))))]), (106, [.c (.pv (.bool j3))])], [some (.box true 73 [.pv (.int .i64 (IntKind.i64.wrap v1)), .pv (.int .i64 (IntKind.i64.wrap (1 + (IntKind.i64.wrap v2)))), .pv (.int .i64 0), .pv (.int .i64 1), .pv (.int .i64 1), .emp]), none, some (.box true 61 [.pv (.sl (List.map e_check_Chan [(check_Chan.mk (IntKind.i64.wrap v1) (IntKind.i64.wrap (1 + (IntKind.i64.wrap v2))) 0 1 1 [])])), .pv (.sl (List.map e_flow_Graph [(flow_Graph.mk 2 [(flow_Edge.mk 0 1 3 0 0 0 (check_Expr.mk 1 5 0 []) (check_Cond.mk 0 (check_Expr.mk 0 0 0 []) (check_Expr.mk 0 0 0 [])))] []), (flow_Graph.mk 2 [(flow_Edge.mk 0 1 0 0 0 0 (check_Expr.mk 0 0 0 []) (check_Cond.mk 0 (check_Expr.mk 0 0 0 []) (check_Expr.mk 0 0 0 [])))] [])])), .pv (.sl (List.map e_i64 [0, 0])), .pv (.sl (List.map e_queue_Elem [v5])), .pv (.sl (List.map e_bool v7))]), some (.box true 49 (bs (e_trans_State x1.2))), some (.box true 49 (bs (e_trans_State v9.1))), some (.box true 55 [.pv (.int .i64 v9.2.1.Chan), .pv (.int .i64 v9.2.1.Tag), .pv (.int .i64 v9.2.1.Vals.Lo), .pv (.int .i64 v9.2.1.Vals.Hi)])]⟩ : Sx)) h wT (fun o h => ?_) (fun j3 h => ?_)
        · refine region_ ?_
          refine R tbok 2 [108, 16, 15, 14, 13, 7, 8, 10, 11, 12] [(108, [.c (.pv (.bool (decide (x1.1 ≥ (IntKind.i64.wrap (1 + (IntKind.i64.wrap v2)))))))]), (16, [.c (.pv (.bool (decide (x1.1 ≥ (IntKind.i64.wrap (1 + (IntKind.i64.wrap v2)))))))]), (15, [.c (.pv (.sl (List.map e_i64 v9.2.2)))]), (14, [.c (.box 5 0)]), (13, [.c (.box 4 0)]), (7, [.c (.box 0 0)]), (8, [.c (.pv (.int .i64 (IntKind.i64.wrap v3)))]), (10, [.c (.box 2 0)]), (11, [.c (.box 3 0)]), (12, [.c (.pv (.int .i64 x1.1))])] (by kernel_rfl) ?_
          refine (tf (decide (x1.1 ≥ (IntKind.i64.wrap (1 + (IntKind.i64.wrap v2)))))).elim (fun k11 => ?_) (fun k11 => ?_)
          · have h := iteT h k11
            refine Lg rfl rfl rfl k11 rfl (lt_fa_box rfl f73_0 ty3 (by decide) rfl) rfl ?_
            refine Lg rfl rfl rfl k11 rfl (lt_load_box rfl ty3 rfl rfl rfl) rfl ?_
            refine Lg rfl rfl rfl k11 rfl (lt_int rfl rfl rfl rfl) rfl ?_
            refine L rfl rfl (lt_pickT rfl rfl k11 rfl) rfl ?_
            refine R tbok 1 [106, 16, 15, 14, 13, 7, 8, 10, 11, 12] [(106, [.c (.pv (.bool ((IntKind.i64.wrap v1) == 0)))]), (16, [.c (.pv (.bool (decide (x1.1 ≥ (IntKind.i64.wrap (1 + (IntKind.i64.wrap v2)))))))]), (15, [.c (.pv (.sl (List.map e_i64 v9.2.2)))]), (14, [.c (.box 5 0)]), (13, [.c (.box 4 0)]), (7, [.c (.box 0 0)]), (8, [.c (.pv (.int .i64 (IntKind.i64.wrap v3)))]), (10, [.c (.box 2 0)]), (11, [.c (.box 3 0)]), (12, [.c (.pv (.int .i64 x1.1))])] (by kernel_rfl) ?_
            refine ops_nil ?_
            obtain rfl := retE h
            refine mN ?_
            refine w_sub (env' := [(7, [.c (.box 0 0)]), (8, [.c (.pv (.int .i64 (IntKind.i64.wrap v3)))]), (10, [.c (.box 2 0)]), (11, [.c (.box 3 0)]), (12, [.c (.pv (.int .i64 x1.1))]), (13, [.c (.box 4 0)]), (14, [.c (.box 5 0)]), (15, [.c (.pv (.sl (List.map e_i64 v9.2.2)))]), (16, [.c (.pv (.bool (decide (x1.1 ≥ (IntKind.i64.wrap (1 + (IntKind.i64.wrap v2)))))))]), (106, [.c (.pv (.bool ((IntKind.i64.wrap v1) == 0)))])]) (sub_cons rfl (sub_cons rfl (sub_cons rfl (sub_cons rfl (sub_cons rfl (sub_cons rfl (sub_cons rfl (sub_cons rfl (sub_cons rfl (sub_cons rfl sub_nil)))))))))) ?_
            exact wkE (by kernel_rfl) (by kernel_rfl)
          · have h := iteF h k11
            refine Ls0 rfl rfl rfl k11 rfl rfl ?_
            refine Ls0 rfl rfl rfl k11 rfl rfl ?_
            refine Ls0 rfl rfl rfl k11 rfl rfl ?_
            refine L rfl rfl (lt_pickF rfl rfl k11 rfl) rfl ?_
            refine R tbok 1 [106, 16, 15, 14, 13, 7, 8, 10, 11, 12] [(106, [.c (.pv (.bool false))]), (16, [.c (.pv (.bool (decide (x1.1 ≥ (IntKind.i64.wrap (1 + (IntKind.i64.wrap v2)))))))]), (15, [.c (.pv (.sl (List.map e_i64 v9.2.2)))]), (14, [.c (.box 5 0)]), (13, [.c (.box 4 0)]), (7, [.c (.box 0 0)]), (8, [.c (.pv (.int .i64 (IntKind.i64.wrap v3)))]), (10, [.c (.box 2 0)]), (11, [.c (.box 3 0)]), (12, [.c (.pv (.int .i64 x1.1))])] (by kernel_rfl) ?_
            refine ops_nil ?_
            obtain rfl := retE h
            refine mN ?_
            refine w_sub (env' := [(7, [.c (.box 0 0)]), (8, [.c (.pv (.int .i64 (IntKind.i64.wrap v3)))]), (10, [.c (.box 2 0)]), (11, [.c (.box 3 0)]), (12, [.c (.pv (.int .i64 x1.1))]), (13, [.c (.box 4 0)]), (14, [.c (.box 5 0)]), (15, [.c (.pv (.sl (List.map e_i64 v9.2.2)))]), (16, [.c (.pv (.bool (decide (x1.1 ≥ (IntKind.i64.wrap (1 + (IntKind.i64.wrap v2)))))))]), (106, [.c (.pv (.bool false))])]) (sub_cons rfl (sub_cons rfl (sub_cons rfl (sub_cons rfl (sub_cons rfl (sub_cons rfl (sub_cons rfl (sub_cons rfl (sub_cons rfl (sub_cons rfl sub_nil)))))))))) ?_
            exact wkE (by kernel_rfl) (by kernel_rfl)
        · refine then_ ?_
          refine cond_ (b := j3) rfl (fun k12 => ?_) (fun k12 => ?_)
          · have h := iteT h k12
            refine seq_ ?_
            refine jn_ (fun (j4 : Bool) => (⟨162, 0, [(7, [.c (.box 0 0)]), (8, [.c (.pv (.int .i64 (IntKind.i64.wrap v3)))]), (10, [.c (.box 2 0)]), (11, [.c (.box 3 0)]), (12, [.c (.pv (.int .i64 x1.1))]), (13, [.c (.box 4 0)]), (125, [.c (.pv (.bool j4))])], [some (.box true 73 [.pv (.int .i64 (IntKind.i64.wrap v1)), .pv (.int .i64 (IntKind.i64.wrap (1 + (IntKind.i64.wrap v2)))), .pv (.int .i64 0), .pv (.int .i64 1), .pv (.int .i64 1), .emp]), none, some (.box true 61 [.pv (.sl (List.map e_check_Chan [(check_Chan.mk (IntKind.i64.wrap v1) (IntKind.i64.wrap (1 + (IntKind.i64.wrap v2))) 0 1 1 [])])), .pv (.sl (List.map e_flow_Graph [(flow_Graph.mk 2 [(flow_Edge.mk 0 1 3 0 0 0 (check_Expr.mk 1 5 0 []) (check_Cond.mk 0 (check_Expr.mk 0 0 0 []) (check_Expr.mk 0 0 0 [])))] []), (flow_Graph.mk 2 [(flow_Edge.mk 0 1 0 0 0 0 (check_Expr.mk 0 0 0 []) (check_Cond.mk 0 (check_Expr.mk 0 0 0 []) (check_Expr.mk 0 0 0 [])))] [])])), .pv (.sl (List.map e_i64 [0, 0])), .pv (.sl (List.map e_queue_Elem [v5])), .pv (.sl (List.map e_bool v7))]), some (.box true 49 (bs (e_trans_State x1.2))), some (.box true 49 (bs (e_trans_State v9.1)))]⟩ : Sx)) h wT (fun o h => ?_) (fun j4 h => ?_)
            · refine region_ ?_
              refine R tbok 1 [113, 7, 8, 10, 11, 12, 13, 14, 15] [(113, [.agg (bs (e_trans_State v9.1))]), (7, [.c (.box 0 0)]), (8, [.c (.pv (.int .i64 (IntKind.i64.wrap v3)))]), (10, [.c (.box 2 0)]), (11, [.c (.box 3 0)]), (12, [.c (.pv (.int .i64 x1.1))]), (13, [.c (.box 4 0)]), (14, [.c (.box 5 0)]), (15, [.c (.pv (.sl (List.map e_i64 v9.2.2)))])] (by kernel_rfl) ?_
              obtain ⟨v10, k13, h⟩ := bindE h
              refine C rfl rfl (fl_call rfl Try.call10 rfl (by kernel_rfl) (by kernel_rfl) (trans_Empty_meets k13)) rfl ?_
              refine R tbok 2 [116, 7, 8, 10, 11, 12, 13, 14, 15] [(116, [.c (.pv (.bool (!v10)))]), (7, [.c (.box 0 0)]), (8, [.c (.pv (.int .i64 (IntKind.i64.wrap v3)))]), (10, [.c (.box 2 0)]), (11, [.c (.box 3 0)]), (12, [.c (.pv (.int .i64 x1.1))]), (13, [.c (.box 4 0)]), (14, [.c (.box 5 0)]), (15, [.c (.pv (.sl (List.map e_i64 v9.2.2)))])] (by kernel_rfl) ?_
              refine (tf (!v10)).elim (fun k14 => ?_) (fun k14 => ?_)
              · have h := iteT h k14
                refine Ls0 rfl rfl rfl k14 rfl rfl ?_
                refine Ls0 rfl rfl rfl k14 rfl rfl ?_
                refine Ls0 rfl rfl rfl k14 rfl rfl ?_
                refine L rfl rfl (lt_pickT rfl rfl k14 rfl) rfl ?_
                refine R tbok 1 [121, 7, 8, 10, 11, 12, 13, 14] [(121, [.c (.pv (.bool true))]), (7, [.c (.box 0 0)]), (8, [.c (.pv (.int .i64 (IntKind.i64.wrap v3)))]), (10, [.c (.box 2 0)]), (11, [.c (.box 3 0)]), (12, [.c (.pv (.int .i64 x1.1))]), (13, [.c (.box 4 0)]), (14, [.c (.box 5 0)])] (by kernel_rfl) ?_
                refine Ls0 rfl rfl rfl rfl rfl rfl ?_
                refine Ls0 rfl rfl rfl rfl rfl rfl ?_
                refine Ls0 rfl rfl rfl rfl rfl rfl ?_
                refine L rfl rfl (lt_pickT rfl rfl rfl rfl) rfl ?_
                refine ops_nil ?_
                obtain rfl := retE h
                refine mN ?_
                refine w_sub (env' := [(7, [.c (.box 0 0)]), (8, [.c (.pv (.int .i64 (IntKind.i64.wrap v3)))]), (10, [.c (.box 2 0)]), (11, [.c (.box 3 0)]), (12, [.c (.pv (.int .i64 x1.1))]), (13, [.c (.box 4 0)]), (125, [.c (.pv (.bool true))])]) (sub_cons rfl (sub_cons rfl (sub_cons rfl (sub_cons rfl (sub_cons rfl (sub_cons rfl (sub_cons rfl sub_nil))))))) ?_
                refine w_cut 5 rfl rfl rfl rfl ?_
                exact wkE (by kernel_rfl) (by kernel_rfl)
              · have h := iteF h k14
                refine Lg rfl rfl rfl k14 rfl (lt_move rfl rfl) rfl ?_
                refine Lg rfl rfl rfl k14 rfl (len_sl (e := e_i64) rfl u33 rfl) rfl ?_
                refine Lg rfl rfl rfl k14 rfl (lt_int rfl rfl rfl rfl) rfl ?_
                refine L rfl rfl (lt_pickF rfl rfl k14 rfl) rfl ?_
                refine R tbok 1 [121, 7, 8, 10, 11, 12, 13, 14] [(121, [.c (.pv (.bool ((v9.2.2.length : Int) != 0)))]), (7, [.c (.box 0 0)]), (8, [.c (.pv (.int .i64 (IntKind.i64.wrap v3)))]), (10, [.c (.box 2 0)]), (11, [.c (.box 3 0)]), (12, [.c (.pv (.int .i64 x1.1))]), (13, [.c (.box 4 0)]), (14, [.c (.box 5 0)])] (by kernel_rfl) ?_
                refine (tf ((v9.2.2.length : Int) != 0)).elim (fun k15 => ?_) (fun k15 => ?_)
                · have h := iteT h k15
                  refine Ls0 rfl rfl rfl k15 rfl rfl ?_
                  refine Ls0 rfl rfl rfl k15 rfl rfl ?_
                  refine Ls0 rfl rfl rfl k15 rfl rfl ?_
                  refine L rfl rfl (lt_pickT rfl rfl k15 rfl) rfl ?_
                  refine ops_nil ?_
                  obtain rfl := retE h
                  refine mN ?_
                  refine w_sub (env' := [(7, [.c (.box 0 0)]), (8, [.c (.pv (.int .i64 (IntKind.i64.wrap v3)))]), (10, [.c (.box 2 0)]), (11, [.c (.box 3 0)]), (12, [.c (.pv (.int .i64 x1.1))]), (13, [.c (.box 4 0)]), (125, [.c (.pv (.bool true))])]) (sub_cons rfl (sub_cons rfl (sub_cons rfl (sub_cons rfl (sub_cons rfl (sub_cons rfl (sub_cons rfl sub_nil))))))) ?_
                  refine w_cut 5 rfl rfl rfl rfl ?_
                  exact wkE (by kernel_rfl) (by kernel_rfl)
                · have h := iteF h k15
                  refine Lg rfl rfl rfl k15 rfl (lt_fa_box rfl f55_0 ty3 (by decide) rfl) rfl ?_
                  refine Lg rfl rfl rfl k15 rfl (lt_load_box rfl ty3 rfl rfl rfl) rfl ?_
                  refine Lg rfl rfl rfl k15 rfl (lt_int rfl rfl rfl rfl) rfl ?_
                  refine L rfl rfl (lt_pickF rfl rfl k15 rfl) rfl ?_
                  refine ops_nil ?_
                  obtain rfl := retE h
                  refine mN ?_
                  refine w_sub (env' := [(7, [.c (.box 0 0)]), (8, [.c (.pv (.int .i64 (IntKind.i64.wrap v3)))]), (10, [.c (.box 2 0)]), (11, [.c (.box 3 0)]), (12, [.c (.pv (.int .i64 x1.1))]), (13, [.c (.box 4 0)]), (125, [.c (.pv (.bool (v9.2.1.Chan != (-1))))])]) (sub_cons rfl (sub_cons rfl (sub_cons rfl (sub_cons rfl (sub_cons rfl (sub_cons rfl (sub_cons rfl sub_nil))))))) ?_
                  refine w_cut 5 rfl rfl rfl rfl ?_
                  exact wkE (by kernel_rfl) (by kernel_rfl)
            · refine then_ ?_
              refine cond_ (b := j4) rfl (fun k16 => ?_) (fun k16 => ?_)
              · have h := iteT h k16
                refine seq_ ?_
                refine region_ ?_
                refine R tbok 1 [6, 7, 8, 10, 11, 12, 13] [(6, [.c (.pv (.bool false))]), (7, [.c (.box 0 0)]), (8, [.c (.pv (.int .i64 (IntKind.i64.wrap v3)))]), (10, [.c (.box 2 0)]), (11, [.c (.box 3 0)]), (12, [.c (.pv (.int .i64 x1.1))]), (13, [.c (.box 4 0)])] (by kernel_rfl) ?_
                refine ops_nil ?_
                refine then_ ?_
                refine ret_ ?_
                obtain rfl := retE h
                refine bR (mRR (rw_ (.tmp rfl .nil) ?_))
                refine w_none 0 .z ?_
                refine w_none 2 (.s (.s .z)) ?_
                refine w_none 3 (.s (.s (.s .z))) ?_
                refine w_none 4 (.s (.s (.s (.s .z)))) ?_
                refine w_cut 0 rfl rfl rfl rfl ?_
                exact wkE (by kernel_rfl) (by kernel_rfl)
              · have h := iteF h k16
                refine skip_ ?_
                refine bN ?_
                obtain rfl := retE h
                refine mRN ?_
                refine w_sub (env' := [(7, [.c (.box 0 0)]), (8, [.c (.pv (.int .i64 (IntKind.i64.wrap v3)))]), (10, [.c (.box 2 0)]), (11, [.c (.box 3 0)]), (12, [.c (.pv (.int .i64 x1.1))]), (13, [.c (.box 4 0)])]) (sub_cons rfl (sub_cons rfl (sub_cons rfl (sub_cons rfl (sub_cons rfl (sub_cons rfl sub_nil)))))) ?_
                exact wkE (by kernel_rfl) (by kernel_rfl)
          · have h := iteF h k12
            refine seq_ ?_
            refine jn_ (fun (j5 : Bool) => (⟨162, 0, [(7, [.c (.box 0 0)]), (8, [.c (.pv (.int .i64 (IntKind.i64.wrap v3)))]), (10, [.c (.box 2 0)]), (11, [.c (.box 3 0)]), (12, [.c (.pv (.int .i64 x1.1))]), (13, [.c (.box 4 0)]), (14, [.c (.box 5 0)]), (15, [.c (.pv (.sl (List.map e_i64 v9.2.2)))]), (126, [.c (.pv (.bool j5))])], [some (.box true 73 [.pv (.int .i64 (IntKind.i64.wrap v1)), .pv (.int .i64 (IntKind.i64.wrap (1 + (IntKind.i64.wrap v2)))), .pv (.int .i64 0), .pv (.int .i64 1), .pv (.int .i64 1), .emp]), none, some (.box true 61 [.pv (.sl (List.map e_check_Chan [(check_Chan.mk (IntKind.i64.wrap v1) (IntKind.i64.wrap (1 + (IntKind.i64.wrap v2))) 0 1 1 [])])), .pv (.sl (List.map e_flow_Graph [(flow_Graph.mk 2 [(flow_Edge.mk 0 1 3 0 0 0 (check_Expr.mk 1 5 0 []) (check_Cond.mk 0 (check_Expr.mk 0 0 0 []) (check_Expr.mk 0 0 0 [])))] []), (flow_Graph.mk 2 [(flow_Edge.mk 0 1 0 0 0 0 (check_Expr.mk 0 0 0 []) (check_Cond.mk 0 (check_Expr.mk 0 0 0 []) (check_Expr.mk 0 0 0 [])))] [])])), .pv (.sl (List.map e_i64 [0, 0])), .pv (.sl (List.map e_queue_Elem [v5])), .pv (.sl (List.map e_bool v7))]), some (.box true 49 (bs (e_trans_State x1.2))), some (.box true 49 (bs (e_trans_State v9.1))), some (.box true 55 [.pv (.int .i64 v9.2.1.Chan), .pv (.int .i64 v9.2.1.Tag), .pv (.int .i64 v9.2.1.Vals.Lo), .pv (.int .i64 v9.2.1.Vals.Hi)])]⟩ : Sx)) h wT (fun o h => ?_) (fun j5 h => ?_)
            · refine region_ ?_
              refine R tbok 2 [128, 7, 8, 10, 11, 12, 13, 14, 15] [(128, [.c (.pv (.bool (decide (x1.1 ≥ (IntKind.i64.wrap (1 + (IntKind.i64.wrap v2)))))))]), (7, [.c (.box 0 0)]), (8, [.c (.pv (.int .i64 (IntKind.i64.wrap v3)))]), (10, [.c (.box 2 0)]), (11, [.c (.box 3 0)]), (12, [.c (.pv (.int .i64 x1.1))]), (13, [.c (.box 4 0)]), (14, [.c (.box 5 0)]), (15, [.c (.pv (.sl (List.map e_i64 v9.2.2)))])] (by kernel_rfl) ?_
              refine (tf (decide (x1.1 ≥ (IntKind.i64.wrap (1 + (IntKind.i64.wrap v2)))))).elim (fun k17 => ?_) (fun k17 => ?_)
              · have h := iteT h k17
                refine Lg rfl rfl rfl k17 rfl (lt_fa_box rfl f73_0 ty3 (by decide) rfl) rfl ?_
                refine Lg rfl rfl rfl k17 rfl (lt_load_box rfl ty3 rfl rfl rfl) rfl ?_
                refine Lg rfl rfl rfl k17 rfl (lt_int rfl rfl rfl rfl) rfl ?_
                refine L rfl rfl (lt_pickT rfl rfl k17 rfl) rfl ?_
                refine R tbok 1 [126, 7, 8, 10, 11, 12, 13, 14, 15] [(126, [.c (.pv (.bool ((IntKind.i64.wrap v1) == 1)))]), (7, [.c (.box 0 0)]), (8, [.c (.pv (.int .i64 (IntKind.i64.wrap v3)))]), (10, [.c (.box 2 0)]), (11, [.c (.box 3 0)]), (12, [.c (.pv (.int .i64 x1.1))]), (13, [.c (.box 4 0)]), (14, [.c (.box 5 0)]), (15, [.c (.pv (.sl (List.map e_i64 v9.2.2)))])] (by kernel_rfl) ?_
                refine ops_nil ?_
                obtain rfl := retE h
                refine mN ?_
                refine w_sub (env' := [(7, [.c (.box 0 0)]), (8, [.c (.pv (.int .i64 (IntKind.i64.wrap v3)))]), (10, [.c (.box 2 0)]), (11, [.c (.box 3 0)]), (12, [.c (.pv (.int .i64 x1.1))]), (13, [.c (.box 4 0)]), (14, [.c (.box 5 0)]), (15, [.c (.pv (.sl (List.map e_i64 v9.2.2)))]), (126, [.c (.pv (.bool ((IntKind.i64.wrap v1) == 1)))])]) (sub_cons rfl (sub_cons rfl (sub_cons rfl (sub_cons rfl (sub_cons rfl (sub_cons rfl (sub_cons rfl (sub_cons rfl (sub_cons rfl sub_nil))))))))) ?_
                exact wkE (by kernel_rfl) (by kernel_rfl)
              · have h := iteF h k17
                refine Ls0 rfl rfl rfl k17 rfl rfl ?_
                refine Ls0 rfl rfl rfl k17 rfl rfl ?_
                refine Ls0 rfl rfl rfl k17 rfl rfl ?_
                refine L rfl rfl (lt_pickF rfl rfl k17 rfl) rfl ?_
                refine R tbok 1 [126, 7, 8, 10, 11, 12, 13, 14, 15] [(126, [.c (.pv (.bool false))]), (7, [.c (.box 0 0)]), (8, [.c (.pv (.int .i64 (IntKind.i64.wrap v3)))]), (10, [.c (.box 2 0)]), (11, [.c (.box 3 0)]), (12, [.c (.pv (.int .i64 x1.1))]), (13, [.c (.box 4 0)]), (14, [.c (.box 5 0)]), (15, [.c (.pv (.sl (List.map e_i64 v9.2.2)))])] (by kernel_rfl) ?_
                refine ops_nil ?_
                obtain rfl := retE h
                refine mN ?_
                refine w_sub (env' := [(7, [.c (.box 0 0)]), (8, [.c (.pv (.int .i64 (IntKind.i64.wrap v3)))]), (10, [.c (.box 2 0)]), (11, [.c (.box 3 0)]), (12, [.c (.pv (.int .i64 x1.1))]), (13, [.c (.box 4 0)]), (14, [.c (.box 5 0)]), (15, [.c (.pv (.sl (List.map e_i64 v9.2.2)))]), (126, [.c (.pv (.bool false))])]) (sub_cons rfl (sub_cons rfl (sub_cons rfl (sub_cons rfl (sub_cons rfl (sub_cons rfl (sub_cons rfl (sub_cons rfl (sub_cons rfl sub_nil))))))))) ?_
                exact wkE (by kernel_rfl) (by kernel_rfl)
            · refine then_ ?_
              refine cond_ (b := j5) rfl (fun k18 => ?_) (fun k18 => ?_)
              · have h := iteT h k18
                refine seq_ ?_
                refine jn_ (fun (j6 : Bool) => (⟨162, 0, [(7, [.c (.box 0 0)]), (8, [.c (.pv (.int .i64 (IntKind.i64.wrap v3)))]), (10, [.c (.box 2 0)]), (11, [.c (.box 3 0)]), (12, [.c (.pv (.int .i64 x1.1))]), (13, [.c (.box 4 0)]), (151, [.c (.pv (.bool j6))])], [some (.box true 73 [.pv (.int .i64 (IntKind.i64.wrap v1)), .pv (.int .i64 (IntKind.i64.wrap (1 + (IntKind.i64.wrap v2)))), .pv (.int .i64 0), .pv (.int .i64 1), .pv (.int .i64 1), .emp]), none, some (.box true 61 [.pv (.sl (List.map e_check_Chan [(check_Chan.mk (IntKind.i64.wrap v1) (IntKind.i64.wrap (1 + (IntKind.i64.wrap v2))) 0 1 1 [])])), .pv (.sl (List.map e_flow_Graph [(flow_Graph.mk 2 [(flow_Edge.mk 0 1 3 0 0 0 (check_Expr.mk 1 5 0 []) (check_Cond.mk 0 (check_Expr.mk 0 0 0 []) (check_Expr.mk 0 0 0 [])))] []), (flow_Graph.mk 2 [(flow_Edge.mk 0 1 0 0 0 0 (check_Expr.mk 0 0 0 []) (check_Cond.mk 0 (check_Expr.mk 0 0 0 []) (check_Expr.mk 0 0 0 [])))] [])])), .pv (.sl (List.map e_i64 [0, 0])), .pv (.sl (List.map e_queue_Elem [v5])), .pv (.sl (List.map e_bool v7))]), some (.box true 49 (bs (e_trans_State x1.2))), some (.box true 49 (bs (e_trans_State v9.1)))]⟩ : Sx)) h wT (fun o h => ?_) (fun j6 h => ?_)
                · refine region_ ?_
                  refine R tbok 1 [133, 7, 8, 10, 11, 12, 13, 14, 15] [(133, [.agg (bs (e_trans_State v9.1))]), (7, [.c (.box 0 0)]), (8, [.c (.pv (.int .i64 (IntKind.i64.wrap v3)))]), (10, [.c (.box 2 0)]), (11, [.c (.box 3 0)]), (12, [.c (.pv (.int .i64 x1.1))]), (13, [.c (.box 4 0)]), (14, [.c (.box 5 0)]), (15, [.c (.pv (.sl (List.map e_i64 v9.2.2)))])] (by kernel_rfl) ?_
                  obtain ⟨v11, k19, h⟩ := bindE h
                  refine C rfl rfl (fl_call rfl Try.call10 rfl (by kernel_rfl) (by kernel_rfl) (trans_Empty_meets k19)) rfl ?_
                  refine R tbok 2 [136, 7, 8, 10, 11, 12, 13, 14, 15] [(136, [.c (.pv (.bool (!v11)))]), (7, [.c (.box 0 0)]), (8, [.c (.pv (.int .i64 (IntKind.i64.wrap v3)))]), (10, [.c (.box 2 0)]), (11, [.c (.box 3 0)]), (12, [.c (.pv (.int .i64 x1.1))]), (13, [.c (.box 4 0)]), (14, [.c (.box 5 0)]), (15, [.c (.pv (.sl (List.map e_i64 v9.2.2)))])] (by kernel_rfl) ?_
                  refine (tf (!v11)).elim (fun k20 => ?_) (fun k20 => ?_)
                  · have h := iteT h k20
                    refine Ls0 rfl rfl rfl k20 rfl rfl ?_
                    refine Ls0 rfl rfl rfl k20 rfl rfl ?_
                    refine Ls0 rfl rfl rfl k20 rfl rfl ?_
                    refine L rfl rfl (lt_pickT rfl rfl k20 rfl) rfl ?_
                    refine R tbok 1 [141, 7, 8, 10, 11, 12, 13, 14, 15] [(141, [.c (.pv (.bool true))]), (7, [.c (.box 0 0)]), (8, [.c (.pv (.int .i64 (IntKind.i64.wrap v3)))]), (10, [.c (.box 2 0)]), (11, [.c (.box 3 0)]), (12, [.c (.pv (.int .i64 x1.1))]), (13, [.c (.box 4 0)]), (14, [.c (.box 5 0)]), (15, [.c (.pv (.sl (List.map e_i64 v9.2.2)))])] (by kernel_rfl) ?_
                    refine Ls0 rfl rfl rfl rfl rfl rfl ?_
                    refine Ls0 rfl rfl rfl rfl rfl rfl ?_
                    refine Ls0 rfl rfl rfl rfl rfl rfl ?_
                    refine Ls0 rfl rfl rfl rfl rfl rfl ?_
                    refine L rfl rfl (lt_pickT rfl rfl rfl rfl) rfl ?_
                    refine R tbok 1 [147, 7, 8, 10, 11, 12, 13, 14] [(147, [.c (.pv (.bool true))]), (7, [.c (.box 0 0)]), (8, [.c (.pv (.int .i64 (IntKind.i64.wrap v3)))]), (10, [.c (.box 2 0)]), (11, [.c (.box 3 0)]), (12, [.c (.pv (.int .i64 x1.1))]), (13, [.c (.box 4 0)]), (14, [.c (.box 5 0)])] (by kernel_rfl) ?_
                    refine Ls0 rfl rfl rfl rfl rfl rfl ?_
                    refine Ls0 rfl rfl rfl rfl rfl rfl ?_
                    refine Ls0 rfl rfl rfl rfl rfl rfl ?_
                    refine L rfl rfl (lt_pickT rfl rfl rfl rfl) rfl ?_
                    refine ops_nil ?_
                    obtain rfl := retE h
                    refine mN ?_
                    refine w_sub (env' := [(7, [.c (.box 0 0)]), (8, [.c (.pv (.int .i64 (IntKind.i64.wrap v3)))]), (10, [.c (.box 2 0)]), (11, [.c (.box 3 0)]), (12, [.c (.pv (.int .i64 x1.1))]), (13, [.c (.box 4 0)]), (151, [.c (.pv (.bool true))])]) (sub_cons rfl (sub_cons rfl (sub_cons rfl (sub_cons rfl (sub_cons rfl (sub_cons rfl (sub_cons rfl sub_nil))))))) ?_
                    refine w_cut 5 rfl rfl rfl rfl ?_
                    exact wkE (by kernel_rfl) (by kernel_rfl)
                  · have h := iteF h k20
                    refine Lg rfl rfl rfl k20 rfl (lt_move rfl rfl) rfl ?_
                    refine Lg rfl rfl rfl k20 rfl (len_sl (e := e_i64) rfl u33 rfl) rfl ?_
                    refine Lg rfl rfl rfl k20 rfl (lt_int rfl rfl rfl rfl) rfl ?_
                    refine L rfl rfl (lt_pickF rfl rfl k20 rfl) rfl ?_
                    refine R tbok 1 [141, 7, 8, 10, 11, 12, 13, 14, 15] [(141, [.c (.pv (.bool ((v9.2.2.length : Int) != 1)))]), (7, [.c (.box 0 0)]), (8, [.c (.pv (.int .i64 (IntKind.i64.wrap v3)))]), (10, [.c (.box 2 0)]), (11, [.c (.box 3 0)]), (12, [.c (.pv (.int .i64 x1.1))]), (13, [.c (.box 4 0)]), (14, [.c (.box 5 0)]), (15, [.c (.pv (.sl (List.map e_i64 v9.2.2)))])] (by kernel_rfl) ?_
                    refine (tf ((v9.2.2.length : Int) != 1)).elim (fun k21 => ?_) (fun k21 => ?_)
                    · have h := iteT h k21
                      refine Ls0 rfl rfl rfl k21 rfl rfl ?_
                      refine Ls0 rfl rfl rfl k21 rfl rfl ?_
                      refine Ls0 rfl rfl rfl k21 rfl rfl ?_
                      refine Ls0 rfl rfl rfl k21 rfl rfl ?_
                      refine L rfl rfl (lt_pickT rfl rfl k21 rfl) rfl ?_
                      refine R tbok 1 [147, 7, 8, 10, 11, 12, 13, 14] [(147, [.c (.pv (.bool true))]), (7, [.c (.box 0 0)]), (8, [.c (.pv (.int .i64 (IntKind.i64.wrap v3)))]), (10, [.c (.box 2 0)]), (11, [.c (.box 3 0)]), (12, [.c (.pv (.int .i64 x1.1))]), (13, [.c (.box 4 0)]), (14, [.c (.box 5 0)])] (by kernel_rfl) ?_
                      refine Ls0 rfl rfl rfl rfl rfl rfl ?_
                      refine Ls0 rfl rfl rfl rfl rfl rfl ?_
                      refine Ls0 rfl rfl rfl rfl rfl rfl ?_
                      refine L rfl rfl (lt_pickT rfl rfl rfl rfl) rfl ?_
                      refine ops_nil ?_
                      obtain rfl := retE h
                      refine mN ?_
                      refine w_sub (env' := [(7, [.c (.box 0 0)]), (8, [.c (.pv (.int .i64 (IntKind.i64.wrap v3)))]), (10, [.c (.box 2 0)]), (11, [.c (.box 3 0)]), (12, [.c (.pv (.int .i64 x1.1))]), (13, [.c (.box 4 0)]), (151, [.c (.pv (.bool true))])]) (sub_cons rfl (sub_cons rfl (sub_cons rfl (sub_cons rfl (sub_cons rfl (sub_cons rfl (sub_cons rfl sub_nil))))))) ?_
                      refine w_cut 5 rfl rfl rfl rfl ?_
                      exact wkE (by kernel_rfl) (by kernel_rfl)
                    · have h := iteF h k21
                      refine Lg rfl rfl rfl k21 rfl (lt_move rfl rfl) rfl ?_
                      obtain ⟨v12, k22, h⟩ := bindE h
                      refine Lg rfl rfl rfl k21 rfl (ia_sl (e := e_i64) (y := v12) rfl u33 ty3 rfl rfl k22 rfl) rfl ?_
                      refine Lg rfl rfl rfl k21 rfl (lt_load_ep rfl ty3 rfl) rfl ?_
                      refine Lg rfl rfl rfl k21 rfl (lt_int rfl rfl rfl rfl) rfl ?_
                      refine L rfl rfl (lt_pickF rfl rfl k21 rfl) rfl ?_
                      refine R tbok 1 [147, 7, 8, 10, 11, 12, 13, 14] [(147, [.c (.pv (.bool (v12 != 4)))]), (7, [.c (.box 0 0)]), (8, [.c (.pv (.int .i64 (IntKind.i64.wrap v3)))]), (10, [.c (.box 2 0)]), (11, [.c (.box 3 0)]), (12, [.c (.pv (.int .i64 x1.1))]), (13, [.c (.box 4 0)]), (14, [.c (.box 5 0)])] (by kernel_rfl) ?_
                      refine (tf (v12 != 4)).elim (fun k23 => ?_) (fun k23 => ?_)
                      · have h := iteT h k23
                        refine Ls0 rfl rfl rfl k23 rfl rfl ?_
                        refine Ls0 rfl rfl rfl k23 rfl rfl ?_
                        refine Ls0 rfl rfl rfl k23 rfl rfl ?_
                        refine L rfl rfl (lt_pickT rfl rfl k23 rfl) rfl ?_
                        refine ops_nil ?_
                        obtain rfl := retE h
                        refine mN ?_
                        refine w_sub (env' := [(7, [.c (.box 0 0)]), (8, [.c (.pv (.int .i64 (IntKind.i64.wrap v3)))]), (10, [.c (.box 2 0)]), (11, [.c (.box 3 0)]), (12, [.c (.pv (.int .i64 x1.1))]), (13, [.c (.box 4 0)]), (151, [.c (.pv (.bool true))])]) (sub_cons rfl (sub_cons rfl (sub_cons rfl (sub_cons rfl (sub_cons rfl (sub_cons rfl (sub_cons rfl sub_nil))))))) ?_
                        refine w_cut 5 rfl rfl rfl rfl ?_
                        exact wkE (by kernel_rfl) (by kernel_rfl)
                      · have h := iteF h k23
                        refine Lg rfl rfl rfl k23 rfl (lt_fa_box rfl f55_0 ty3 (by decide) rfl) rfl ?_
                        refine Lg rfl rfl rfl k23 rfl (lt_load_box rfl ty3 rfl rfl rfl) rfl ?_
                        refine Lg rfl rfl rfl k23 rfl (lt_int rfl rfl rfl rfl) rfl ?_
                        refine L rfl rfl (lt_pickF rfl rfl k23 rfl) rfl ?_
                        refine ops_nil ?_
                        obtain rfl := retE h
                        refine mN ?_
                        refine w_sub (env' := [(7, [.c (.box 0 0)]), (8, [.c (.pv (.int .i64 (IntKind.i64.wrap v3)))]), (10, [.c (.box 2 0)]), (11, [.c (.box 3 0)]), (12, [.c (.pv (.int .i64 x1.1))]), (13, [.c (.box 4 0)]), (151, [.c (.pv (.bool (v9.2.1.Chan != (-1))))])]) (sub_cons rfl (sub_cons rfl (sub_cons rfl (sub_cons rfl (sub_cons rfl (sub_cons rfl (sub_cons rfl sub_nil))))))) ?_
                        refine w_cut 5 rfl rfl rfl rfl ?_
                        exact wkE (by kernel_rfl) (by kernel_rfl)
                · refine then_ ?_
                  refine cond_ (b := j6) rfl (fun k24 => ?_) (fun k24 => ?_)
                  · have h := iteT h k24
                    refine seq_ ?_
                    refine region_ ?_
                    refine R tbok 1 [6, 7, 8, 10, 11, 12, 13] [(6, [.c (.pv (.bool false))]), (7, [.c (.box 0 0)]), (8, [.c (.pv (.int .i64 (IntKind.i64.wrap v3)))]), (10, [.c (.box 2 0)]), (11, [.c (.box 3 0)]), (12, [.c (.pv (.int .i64 x1.1))]), (13, [.c (.box 4 0)])] (by kernel_rfl) ?_
                    refine ops_nil ?_
                    refine then_ ?_
                    refine ret_ ?_
                    obtain rfl := retE h
                    refine bR (mRR (rw_ (.tmp rfl .nil) ?_))
                    refine w_none 0 .z ?_
                    refine w_none 2 (.s (.s .z)) ?_
                    refine w_none 3 (.s (.s (.s .z))) ?_
                    refine w_none 4 (.s (.s (.s (.s .z)))) ?_
                    refine w_cut 0 rfl rfl rfl rfl ?_
                    exact wkE (by kernel_rfl) (by kernel_rfl)
                  · have h := iteF h k24
                    refine skip_ ?_
                    refine bN ?_
                    obtain rfl := retE h
                    refine mRN ?_
                    refine w_sub (env' := [(7, [.c (.box 0 0)]), (8, [.c (.pv (.int .i64 (IntKind.i64.wrap v3)))]), (10, [.c (.box 2 0)]), (11, [.c (.box 3 0)]), (12, [.c (.pv (.int .i64 x1.1))]), (13, [.c (.box 4 0)])]) (sub_cons rfl (sub_cons rfl (sub_cons rfl (sub_cons rfl (sub_cons rfl (sub_cons rfl sub_nil)))))) ?_
                    exact wkE (by kernel_rfl) (by kernel_rfl)
              · have h := iteF h k18
                refine seq_ ?_
                refine jn_ (fun (j7 : Bool) => (⟨162, 0, [(7, [.c (.box 0 0)]), (8, [.c (.pv (.int .i64 (IntKind.i64.wrap v3)))]), (10, [.c (.box 2 0)]), (11, [.c (.box 3 0)]), (12, [.c (.pv (.int .i64 x1.1))]), (13, [.c (.box 4 0)]), (105, [.c (.pv (.bool j7))])], [some (.box true 73 [.pv (.int .i64 (IntKind.i64.wrap v1)), .pv (.int .i64 (IntKind.i64.wrap (1 + (IntKind.i64.wrap v2)))), .pv (.int .i64 0), .pv (.int .i64 1), .pv (.int .i64 1), .emp]), none, some (.box true 61 [.pv (.sl (List.map e_check_Chan [(check_Chan.mk (IntKind.i64.wrap v1) (IntKind.i64.wrap (1 + (IntKind.i64.wrap v2))) 0 1 1 [])])), .pv (.sl (List.map e_flow_Graph [(flow_Graph.mk 2 [(flow_Edge.mk 0 1 3 0 0 0 (check_Expr.mk 1 5 0 []) (check_Cond.mk 0 (check_Expr.mk 0 0 0 []) (check_Expr.mk 0 0 0 [])))] []), (flow_Graph.mk 2 [(flow_Edge.mk 0 1 0 0 0 0 (check_Expr.mk 0 0 0 []) (check_Cond.mk 0 (check_Expr.mk 0 0 0 []) (check_Expr.mk 0 0 0 [])))] [])])), .pv (.sl (List.map e_i64 [0, 0])), .pv (.sl (List.map e_queue_Elem [v5])), .pv (.sl (List.map e_bool v7))]), some (.box true 49 (bs (e_trans_State x1.2))), some (.box true 49 (bs (e_trans_State v9.1)))]⟩ : Sx)) h wT (fun o h => ?_) (fun j7 h => ?_)
                · refine drawn_ mixed ?_
                  refine dl (t := 68) 0 [.agg (bs (e_trans_State v9.1))] rfl ?_
                  obtain ⟨v14, k26, h⟩ := bindE h
                  refine dl (t := 69) 1 [.c (.pv (.bool v14))] rfl ?_
                  refine dl (t := 70) 2 [.c (.pv (.bool v14))] rfl ?_
                  refine (tf v14).elim (fun k27 => ?_) (fun k27 => ?_)
                  · have h := iteT h k27
                    refine ds (t := 71) 3 rfl ?_
                    refine ds (t := 72) 4 rfl ?_
                    refine ds (t := 73) 5 rfl ?_
                    refine ds (t := 74) 6 rfl ?_
                    refine dl (t := 75) 7 [.c (.pv (.bool true))] rfl ?_
                    refine dl (t := 76) 8 [.c (.pv (.bool true))] rfl ?_
                    refine ds (t := 77) 9 rfl ?_
                    refine ds (t := 78) 10 rfl ?_
                    refine ds (t := 79) 11 rfl ?_
                    refine dl (t := 80) 12 [.c (.pv (.bool true))] rfl ?_
                    refine dl (t := 81) 13 [.c (.pv (.bool true))] rfl ?_
                    refine ds (t := 82) 14 rfl ?_
                    refine ds (t := 83) 15 rfl ?_
                    refine ds (t := 84) 16 rfl ?_
                    refine dl (t := 85) 17 [.c (.pv (.bool true))] rfl ?_
                    refine dl (t := 86) 18 [.c (.pv (.bool true))] rfl ?_
                    refine ds (t := 87) 19 rfl ?_
                    refine ds (t := 88) 20 rfl ?_
                    refine ds (t := 89) 21 rfl ?_
                    refine ds (t := 90) 22 rfl ?_
                    refine dl (t := 91) 23 [.c (.pv (.bool true))] rfl ?_
                    refine dl (t := 92) 24 [.c (.pv (.bool true))] rfl ?_
                    refine ds (t := 93) 25 rfl ?_
                    refine ds (t := 94) 26 rfl ?_
                    refine ds (t := 95) 27 rfl ?_
                    refine ds (t := 96) 28 rfl ?_
                    refine ds (t := 97) 29 rfl ?_
                    refine ds (t := 98) 30 rfl ?_
                    refine ds (t := 99) 31 rfl ?_
                    refine ds (t := 100) 32 rfl ?_
                    refine ds (t := 101) 33 rfl ?_
                    refine ds (t := 102) 34 rfl ?_
                    refine ds (t := 103) 35 rfl ?_
                    refine ds (t := 104) 36 rfl ?_
                    refine dl (t := 105) 37 [.c (.pv (.bool true))] rfl ?_
                    refine d_endS (env2 := [(105, [.c (.pv (.bool true))]), (7, [.c (.box 0 0)]), (8, [.c (.pv (.int .i64 (IntKind.i64.wrap v3)))]), (10, [.c (.box 2 0)]), (11, [.c (.box 3 0)]), (12, [.c (.pv (.int .i64 x1.1))]), (13, [.c (.box 4 0)])]) (wm [0, 1, 3, 7, 15, 31, 63, 127, 255, 511, 1023, 2047, 4095, 8191, 16383, 32767, 65535, 131071, 262143, 524287, 1048575, 524287, 4194303, 8388607, 16777215, 33554431, 67108863, 134217727, 268435455, 33554431, 570425343, 33554431, 2181038079, 6476005375, 16676552703, 33856421887, 68719476735, 137438953471]) (by kernel_rfl) (by kernel_rfl) (by kernel_rfl) (oL [] rfl (by kernel_rfl) (fl_lt (lt_pickT rfl rfl rfl rfl)) (owF (by kernel_rfl) (fo_s [] rfl rfl rfl (by kernel_rfl) (by kernel_rfl) (by kernel_rfl) (gi1 rfl rfl rfl (beF rfl))) (owF (by kernel_rfl) (fo_s [] rfl rfl rfl (by kernel_rfl) (by kernel_rfl) (by kernel_rfl) (gi1 rfl rfl rfl (beF rfl))) (owF (by kernel_rfl) (fo_s [] rfl rfl rfl (by kernel_rfl) (by kernel_rfl) (by kernel_rfl) (gi1 rfl rfl rfl (beF rfl))) (owF (by kernel_rfl) (fo_s [] rfl rfl rfl (by kernel_rfl) (by kernel_rfl) (by kernel_rfl) (gi1 rfl rfl rfl (beF rfl))) (owF (by kernel_rfl) (fo_s [] rfl rfl rfl (by kernel_rfl) (by kernel_rfl) (by kernel_rfl) (gi1 rfl rfl rfl (beF rfl))) (owF (by kernel_rfl) (fo_s [] rfl rfl rfl (by kernel_rfl) (by kernel_rfl) (by kernel_rfl) (gi1 rfl rfl rfl (beF rfl))) (owF (by kernel_rfl) (fo_s [] rfl rfl rfl (by kernel_rfl) (by kernel_rfl) (by kernel_rfl) (gi1 rfl rfl rfl (beF rfl))) (owF (by kernel_rfl) (fo_s [] rfl rfl rfl (by kernel_rfl) (by kernel_rfl) (by kernel_rfl) (gi1 rfl rfl rfl (beF rfl))) (owF (by kernel_rfl) (fo_s [] rfl rfl rfl (by kernel_rfl) (by kernel_rfl) (by kernel_rfl) (gi1 rfl rfl rfl (beF rfl))) (owF (by kernel_rfl) (fo_s [] rfl rfl rfl (by kernel_rfl) (by kernel_rfl) (by kernel_rfl) (gi1 rfl rfl rfl (beF rfl))) (owF (by kernel_rfl) (fo_s [] rfl rfl rfl (by kernel_rfl) (by kernel_rfl) (by kernel_rfl) (gi1 rfl rfl rfl (beF rfl))) (owF (by kernel_rfl) (fo_s [] rfl rfl rfl (by kernel_rfl) (by kernel_rfl) (by kernel_rfl) (gi1 rfl rfl rfl (beF rfl))) (oE tbok [] 1 (by kernel_rfl) (oL [] rfl (by kernel_rfl) (fl_lt (lt_pickT rfl rfl rfl rfl)) (owF (by kernel_rfl) (fo_s [] rfl rfl rfl (by kernel_rfl) (by kernel_rfl) (by kernel_rfl) (gi1 rfl rfl rfl (beF rfl))) (owF (by kernel_rfl) (fo_s [] rfl rfl rfl (by kernel_rfl) (by kernel_rfl) (by kernel_rfl) (gi1 rfl rfl rfl (beF rfl))) (owF (by kernel_rfl) (fo_s [] rfl rfl rfl (by kernel_rfl) (by kernel_rfl) (by kernel_rfl) (gi1 rfl rfl rfl (beF rfl))) (owF (by kernel_rfl) (fo_s [] rfl rfl rfl (by kernel_rfl) (by kernel_rfl) (by kernel_rfl) (gi1 rfl rfl rfl (beF rfl))) (oE tbok [] 1 (by kernel_rfl) (oL [] rfl (by kernel_rfl) (fl_lt (lt_pickT rfl rfl rfl rfl)) (owF (by kernel_rfl) (fo_s [] rfl rfl rfl (by kernel_rfl) (by kernel_rfl) (by kernel_rfl) (gi1 rfl rfl rfl (beF rfl))) (owF (by kernel_rfl) (fo_s [] rfl rfl rfl (by kernel_rfl) (by kernel_rfl) (by kernel_rfl) (gi1 rfl rfl rfl (beF rfl))) (owF (by kernel_rfl) (fo_s [] rfl rfl rfl (by kernel_rfl) (by kernel_rfl) (by kernel_rfl) (gi1 rfl rfl rfl (beF rfl))) (oE tbok [] 1 (by kernel_rfl) (oL [] rfl (by kernel_rfl) (fl_lt (lt_pickT rfl rfl rfl rfl)) (owF (by kernel_rfl) (fo_s [] rfl rfl rfl (by kernel_rfl) (by kernel_rfl) (by kernel_rfl) (gi1 rfl rfl rfl (beF rfl))) (owF (by kernel_rfl) (fo_s [] rfl rfl rfl (by kernel_rfl) (by kernel_rfl) (by kernel_rfl) (gi1 rfl rfl rfl (beF rfl))) (owF (by kernel_rfl) (fo_s [] rfl rfl rfl (by kernel_rfl) (by kernel_rfl) (by kernel_rfl) (gi1 rfl rfl rfl (beF rfl))) (oE tbok [] 1 (by kernel_rfl) (oL [] rfl (by kernel_rfl) (fl_lt (lt_pickT rfl rfl k27 rfl)) (owF (by kernel_rfl) (fo_s [] rfl rfl rfl (by kernel_rfl) (by kernel_rfl) (by kernel_rfl) (gi1 rfl rfl rfl (beF k27))) (owF (by kernel_rfl) (fo_s [] rfl rfl rfl (by kernel_rfl) (by kernel_rfl) (by kernel_rfl) (gi1 rfl rfl rfl (beF k27))) (owF (by kernel_rfl) (fo_s [] rfl rfl rfl (by kernel_rfl) (by kernel_rfl) (by kernel_rfl) (gi1 rfl rfl rfl (beF k27))) (owF (by kernel_rfl) (fo_s [] rfl rfl rfl (by kernel_rfl) (by kernel_rfl) (by kernel_rfl) (gi1 rfl rfl rfl (beF k27))) (oE tbok [] 1 (by kernel_rfl) (oL [] rfl (by kernel_rfl) (fl_call rfl Try.call10 rfl (by kernel_rfl) (by kernel_rfl) (trans_Empty_meets k26)) (oE tbok [] 1 (by kernel_rfl) trivial)))))))))))))))))))))))))))))))))))))) (sub_cons rfl (sub_cons rfl (sub_cons rfl (sub_cons rfl (sub_cons rfl (sub_cons rfl (sub_cons rfl sub_nil))))))) wM ?_
                    obtain rfl := retE h
                    refine mN ?_
                    refine w_sub (env' := [(7, [.c (.box 0 0)]), (8, [.c (.pv (.int .i64 (IntKind.i64.wrap v3)))]), (10, [.c (.box 2 0)]), (11, [.c (.box 3 0)]), (12, [.c (.pv (.int .i64 x1.1))]), (13, [.c (.box 4 0)]), (105, [.c (.pv (.bool true))])]) (sub_cons rfl (sub_cons rfl (sub_cons rfl (sub_cons rfl (sub_cons rfl (sub_cons rfl (sub_cons rfl sub_nil))))))) ?_
                    refine w_cut 5 rfl rfl rfl rfl ?_
                    exact wkE (by kernel_rfl) (by kernel_rfl)
                  · have h := iteF h k27
                    refine dl (t := 71) 3 [.c (.box 4 53)] rfl ?_
                    refine dl (t := 72) 4 [.c (.pv (.sl (List.map e_itv_Itv v9.1.Counts)))] rfl ?_
                    refine dl (t := 73) 5 [.c (.pv (.int .i64 (v9.1.Counts.length : Int)))] rfl ?_
                    refine dl (t := 74) 6 [.c (.pv (.bool ((v9.1.Counts.length : Int) != 1)))] rfl ?_
                    refine dl (t := 75) 7 [.c (.pv (.bool ((v9.1.Counts.length : Int) != 1)))] rfl ?_
                    refine dl (t := 76) 8 [.c (.pv (.bool ((v9.1.Counts.length : Int) != 1)))] rfl ?_
                    refine (tf ((v9.1.Counts.length : Int) != 1)).elim (fun k28 => ?_) (fun k28 => ?_)
                    · have h := iteT h k28
                      refine ds (t := 77) 9 rfl ?_
                      refine ds (t := 78) 10 rfl ?_
                      refine ds (t := 79) 11 rfl ?_
                      refine dl (t := 80) 12 [.c (.pv (.bool true))] rfl ?_
                      refine dl (t := 81) 13 [.c (.pv (.bool true))] rfl ?_
                      refine ds (t := 82) 14 rfl ?_
                      refine ds (t := 83) 15 rfl ?_
                      refine ds (t := 84) 16 rfl ?_
                      refine dl (t := 85) 17 [.c (.pv (.bool true))] rfl ?_
                      refine dl (t := 86) 18 [.c (.pv (.bool true))] rfl ?_
                      refine ds (t := 87) 19 rfl ?_
                      refine ds (t := 88) 20 rfl ?_
                      refine ds (t := 89) 21 rfl ?_
                      refine ds (t := 90) 22 rfl ?_
                      refine dl (t := 91) 23 [.c (.pv (.bool true))] rfl ?_
                      refine dl (t := 92) 24 [.c (.pv (.bool true))] rfl ?_
                      refine ds (t := 93) 25 rfl ?_
                      refine ds (t := 94) 26 rfl ?_
                      refine ds (t := 95) 27 rfl ?_
                      refine ds (t := 96) 28 rfl ?_
                      refine ds (t := 97) 29 rfl ?_
                      refine ds (t := 98) 30 rfl ?_
                      refine ds (t := 99) 31 rfl ?_
                      refine ds (t := 100) 32 rfl ?_
                      refine ds (t := 101) 33 rfl ?_
                      refine ds (t := 102) 34 rfl ?_
                      refine ds (t := 103) 35 rfl ?_
                      refine ds (t := 104) 36 rfl ?_
                      refine dl (t := 105) 37 [.c (.pv (.bool true))] rfl ?_
                      refine d_endS (env2 := [(105, [.c (.pv (.bool true))]), (7, [.c (.box 0 0)]), (8, [.c (.pv (.int .i64 (IntKind.i64.wrap v3)))]), (10, [.c (.box 2 0)]), (11, [.c (.box 3 0)]), (12, [.c (.pv (.int .i64 x1.1))]), (13, [.c (.box 4 0)])]) (wm [0, 1, 3, 7, 15, 31, 63, 127, 255, 511, 1023, 2047, 4095, 8191, 16383, 32767, 65535, 131071, 262143, 524287, 1048575, 524287, 4194303, 8388607, 16777215, 33554431, 67108863, 134217727, 268435455, 33554431, 570425343, 33554431, 2181038079, 6476005375, 16676552703, 33856421887, 68719476735, 137438953471]) (by kernel_rfl) (by kernel_rfl) (by kernel_rfl) (oL [] rfl (by kernel_rfl) (fl_lt (lt_pickT rfl rfl rfl rfl)) (owF (by kernel_rfl) (fo_s [] rfl rfl rfl (by kernel_rfl) (by kernel_rfl) (by kernel_rfl) (gi1 rfl rfl rfl (beF rfl))) (owF (by kernel_rfl) (fo_s [] rfl rfl rfl (by kernel_rfl) (by kernel_rfl) (by kernel_rfl) (gi1 rfl rfl rfl (beF rfl))) (owF (by kernel_rfl) (fo_s [] rfl rfl rfl (by kernel_rfl) (by kernel_rfl) (by kernel_rfl) (gi1 rfl rfl rfl (beF rfl))) (owF (by kernel_rfl) (fo_s [] rfl rfl rfl (by kernel_rfl) (by kernel_rfl) (by kernel_rfl) (gi1 rfl rfl rfl (beF rfl))) (owF (by kernel_rfl) (fo_s [] rfl rfl rfl (by kernel_rfl) (by kernel_rfl) (by kernel_rfl) (gi1 rfl rfl rfl (beF rfl))) (owF (by kernel_rfl) (fo_s [] rfl rfl rfl (by kernel_rfl) (by kernel_rfl) (by kernel_rfl) (gi1 rfl rfl rfl (beF rfl))) (owF (by kernel_rfl) (fo_s [] rfl rfl rfl (by kernel_rfl) (by kernel_rfl) (by kernel_rfl) (gi1 rfl rfl rfl (beF rfl))) (owF (by kernel_rfl) (fo_s [] rfl rfl rfl (by kernel_rfl) (by kernel_rfl) (by kernel_rfl) (gi1 rfl rfl rfl (beF rfl))) (owF (by kernel_rfl) (fo_s [] rfl rfl rfl (by kernel_rfl) (by kernel_rfl) (by kernel_rfl) (gi1 rfl rfl rfl (beF rfl))) (owF (by kernel_rfl) (fo_s [] rfl rfl rfl (by kernel_rfl) (by kernel_rfl) (by kernel_rfl) (gi1 rfl rfl rfl (beF rfl))) (owF (by kernel_rfl) (fo_s [] rfl rfl rfl (by kernel_rfl) (by kernel_rfl) (by kernel_rfl) (gi1 rfl rfl rfl (beF rfl))) (owF (by kernel_rfl) (fo_s [] rfl rfl rfl (by kernel_rfl) (by kernel_rfl) (by kernel_rfl) (gi1 rfl rfl rfl (beF rfl))) (oE tbok [] 1 (by kernel_rfl) (oL [] rfl (by kernel_rfl) (fl_lt (lt_pickT rfl rfl rfl rfl)) (owF (by kernel_rfl) (fo_s [] rfl rfl rfl (by kernel_rfl) (by kernel_rfl) (by kernel_rfl) (gi1 rfl rfl rfl (beF rfl))) (owF (by kernel_rfl) (fo_s [] rfl rfl rfl (by kernel_rfl) (by kernel_rfl) (by kernel_rfl) (gi1 rfl rfl rfl (beF rfl))) (owF (by kernel_rfl) (fo_s [] rfl rfl rfl (by kernel_rfl) (by kernel_rfl) (by kernel_rfl) (gi1 rfl rfl rfl (beF rfl))) (owF (by kernel_rfl) (fo_s [] rfl rfl rfl (by kernel_rfl) (by kernel_rfl) (by kernel_rfl) (gi1 rfl rfl rfl (beF rfl))) (oE tbok [] 1 (by kernel_rfl) (oL [] rfl (by kernel_rfl) (fl_lt (lt_pickT rfl rfl rfl rfl)) (owF (by kernel_rfl) (fo_s [] rfl rfl rfl (by kernel_rfl) (by kernel_rfl) (by kernel_rfl) (gi1 rfl rfl rfl (beF rfl))) (owF (by kernel_rfl) (fo_s [] rfl rfl rfl (by kernel_rfl) (by kernel_rfl) (by kernel_rfl) (gi1 rfl rfl rfl (beF rfl))) (owF (by kernel_rfl) (fo_s [] rfl rfl rfl (by kernel_rfl) (by kernel_rfl) (by kernel_rfl) (gi1 rfl rfl rfl (beF rfl))) (oE tbok [] 1 (by kernel_rfl) (oL [] rfl (by kernel_rfl) (fl_lt (lt_pickT rfl rfl k28 rfl)) (owF (by kernel_rfl) (fo_s [] rfl rfl rfl (by kernel_rfl) (by kernel_rfl) (by kernel_rfl) (gi1 rfl rfl rfl (beF k28))) (owF (by kernel_rfl) (fo_s [] rfl rfl rfl (by kernel_rfl) (by kernel_rfl) (by kernel_rfl) (gi1 rfl rfl rfl (beF k28))) (owF (by kernel_rfl) (fo_s [] rfl rfl rfl (by kernel_rfl) (by kernel_rfl) (by kernel_rfl) (gi1 rfl rfl rfl (beF k28))) (oE tbok [] 1 (by kernel_rfl) (oL [] rfl (by kernel_rfl) (fl_lt (lt_pickF rfl rfl k27 rfl)) (owF (by kernel_rfl) (fo_l [] rfl rfl rfl (by kernel_rfl) (by kernel_rfl) (by kernel_rfl) (gi1 rfl rfl rfl (beT k27)) (fl_lt (lt_int rfl rfl rfl rfl))) (owF (by kernel_rfl) (fo_l [] rfl rfl rfl (by kernel_rfl) (by kernel_rfl) (by kernel_rfl) (gi1 rfl rfl rfl (beT k27)) (fl_lt (len_sl (e := e_itv_Itv) rfl u40 rfl))) (owF (by kernel_rfl) (fo_l [] rfl rfl rfl (by kernel_rfl) (by kernel_rfl) (by kernel_rfl) (gi1 rfl rfl rfl (beT k27)) (fl_lt (lt_load_box rfl ty40 rfl rfl rfl))) (owF (by kernel_rfl) (fo_l [] rfl rfl rfl (by kernel_rfl) (by kernel_rfl) (by kernel_rfl) (gi1 rfl rfl rfl (beT k27)) (fl_lt (lt_fa_box rfl f49_1 ty40 (by decide) rfl))) (oE tbok [] 1 (by kernel_rfl) (oL [] rfl (by kernel_rfl) (fl_call rfl Try.call10 rfl (by kernel_rfl) (by kernel_rfl) (trans_Empty_meets k26)) (oE tbok [] 1 (by kernel_rfl) trivial)))))))))))))))))))))))))))))))))))))) (sub_cons rfl (sub_cons rfl (sub_cons rfl (sub_cons rfl (sub_cons rfl (sub_cons rfl (sub_cons rfl sub_nil))))))) wM ?_
                      obtain rfl := retE h
                      refine mN ?_
                      refine w_sub (env' := [(7, [.c (.box 0 0)]), (8, [.c (.pv (.int .i64 (IntKind.i64.wrap v3)))]), (10, [.c (.box 2 0)]), (11, [.c (.box 3 0)]), (12, [.c (.pv (.int .i64 x1.1))]), (13, [.c (.box 4 0)]), (105, [.c (.pv (.bool true))])]) (sub_cons rfl (sub_cons rfl (sub_cons rfl (sub_cons rfl (sub_cons rfl (sub_cons rfl (sub_cons rfl sub_nil))))))) ?_
                      refine w_cut 5 rfl rfl rfl rfl ?_
                      exact wkE (by kernel_rfl) (by kernel_rfl)
                    · have h := iteF h k28
                      refine dl (t := 77) 9 [.c (.pv (.sl (List.map e_i64 v9.2.2)))] rfl ?_
                      refine dl (t := 78) 10 [.c (.pv (.int .i64 (v9.2.2.length : Int)))] rfl ?_
                      refine dl (t := 79) 11 [.c (.pv (.bool ((v9.2.2.length : Int) != 0)))] rfl ?_
                      refine dl (t := 80) 12 [.c (.pv (.bool ((v9.2.2.length : Int) != 0)))] rfl ?_
                      refine dl (t := 81) 13 [.c (.pv (.bool ((v9.2.2.length : Int) != 0)))] rfl ?_
                      refine (tf ((v9.2.2.length : Int) != 0)).elim (fun k29 => ?_) (fun k29 => ?_)
                      · have h := iteT h k29
                        refine ds (t := 82) 14 rfl ?_
                        refine ds (t := 83) 15 rfl ?_
                        refine ds (t := 84) 16 rfl ?_
                        refine dl (t := 85) 17 [.c (.pv (.bool true))] rfl ?_
                        refine dl (t := 86) 18 [.c (.pv (.bool true))] rfl ?_
                        refine ds (t := 87) 19 rfl ?_
                        refine ds (t := 88) 20 rfl ?_
                        refine ds (t := 89) 21 rfl ?_
                        refine ds (t := 90) 22 rfl ?_
                        refine dl (t := 91) 23 [.c (.pv (.bool true))] rfl ?_
                        refine dl (t := 92) 24 [.c (.pv (.bool true))] rfl ?_
                        refine ds (t := 93) 25 rfl ?_
                        refine ds (t := 94) 26 rfl ?_
                        refine ds (t := 95) 27 rfl ?_
                        refine ds (t := 96) 28 rfl ?_
                        refine ds (t := 97) 29 rfl ?_
                        refine ds (t := 98) 30 rfl ?_
                        refine ds (t := 99) 31 rfl ?_
                        refine ds (t := 100) 32 rfl ?_
                        refine ds (t := 101) 33 rfl ?_
                        refine ds (t := 102) 34 rfl ?_
                        refine ds (t := 103) 35 rfl ?_
                        refine ds (t := 104) 36 rfl ?_
                        refine dl (t := 105) 37 [.c (.pv (.bool true))] rfl ?_
                        refine d_endS (env2 := [(105, [.c (.pv (.bool true))]), (7, [.c (.box 0 0)]), (8, [.c (.pv (.int .i64 (IntKind.i64.wrap v3)))]), (10, [.c (.box 2 0)]), (11, [.c (.box 3 0)]), (12, [.c (.pv (.int .i64 x1.1))]), (13, [.c (.box 4 0)])]) (wm [0, 1, 3, 7, 15, 31, 63, 127, 255, 511, 1023, 2047, 4095, 8191, 16383, 32767, 65535, 131071, 262143, 524287, 1048575, 524287, 4194303, 8388607, 16777215, 33554431, 67108863, 134217727, 268435455, 33554431, 570425343, 33554431, 2181038079, 6476005375, 16676552703, 33856421887, 68719476735, 137438953471]) (by kernel_rfl) (by kernel_rfl) (by kernel_rfl) (oL [] rfl (by kernel_rfl) (fl_lt (lt_pickT rfl rfl rfl rfl)) (owF (by kernel_rfl) (fo_s [] rfl rfl rfl (by kernel_rfl) (by kernel_rfl) (by kernel_rfl) (gi1 rfl rfl rfl (beF rfl))) (owF (by kernel_rfl) (fo_s [] rfl rfl rfl (by kernel_rfl) (by kernel_rfl) (by kernel_rfl) (gi1 rfl rfl rfl (beF rfl))) (owF (by kernel_rfl) (fo_s [] rfl rfl rfl (by kernel_rfl) (by kernel_rfl) (by kernel_rfl) (gi1 rfl rfl rfl (beF rfl))) (owF (by kernel_rfl) (fo_s [] rfl rfl rfl (by kernel_rfl) (by kernel_rfl) (by kernel_rfl) (gi1 rfl rfl rfl (beF rfl))) (owF (by kernel_rfl) (fo_s [] rfl rfl rfl (by kernel_rfl) (by kernel_rfl) (by kernel_rfl) (gi1 rfl rfl rfl (beF rfl))) (owF (by kernel_rfl) (fo_s [] rfl rfl rfl (by kernel_rfl) (by kernel_rfl) (by kernel_rfl) (gi1 rfl rfl rfl (beF rfl))) (owF (by kernel_rfl) (fo_s [] rfl rfl rfl (by kernel_rfl) (by kernel_rfl) (by kernel_rfl) (gi1 rfl rfl rfl (beF rfl))) (owF (by kernel_rfl) (fo_s [] rfl rfl rfl (by kernel_rfl) (by kernel_rfl) (by kernel_rfl) (gi1 rfl rfl rfl (beF rfl))) (owF (by kernel_rfl) (fo_s [] rfl rfl rfl (by kernel_rfl) (by kernel_rfl) (by kernel_rfl) (gi1 rfl rfl rfl (beF rfl))) (owF (by kernel_rfl) (fo_s [] rfl rfl rfl (by kernel_rfl) (by kernel_rfl) (by kernel_rfl) (gi1 rfl rfl rfl (beF rfl))) (owF (by kernel_rfl) (fo_s [] rfl rfl rfl (by kernel_rfl) (by kernel_rfl) (by kernel_rfl) (gi1 rfl rfl rfl (beF rfl))) (owF (by kernel_rfl) (fo_s [] rfl rfl rfl (by kernel_rfl) (by kernel_rfl) (by kernel_rfl) (gi1 rfl rfl rfl (beF rfl))) (oE tbok [] 1 (by kernel_rfl) (oL [] rfl (by kernel_rfl) (fl_lt (lt_pickT rfl rfl rfl rfl)) (owF (by kernel_rfl) (fo_s [] rfl rfl rfl (by kernel_rfl) (by kernel_rfl) (by kernel_rfl) (gi1 rfl rfl rfl (beF rfl))) (owF (by kernel_rfl) (fo_s [] rfl rfl rfl (by kernel_rfl) (by kernel_rfl) (by kernel_rfl) (gi1 rfl rfl rfl (beF rfl))) (owF (by kernel_rfl) (fo_s [] rfl rfl rfl (by kernel_rfl) (by kernel_rfl) (by kernel_rfl) (gi1 rfl rfl rfl (beF rfl))) (owF (by kernel_rfl) (fo_s [] rfl rfl rfl (by kernel_rfl) (by kernel_rfl) (by kernel_rfl) (gi1 rfl rfl rfl (beF rfl))) (oE tbok [] 1 (by kernel_rfl) (oL [] rfl (by kernel_rfl) (fl_lt (lt_pickT rfl rfl k29 rfl)) (owF (by kernel_rfl) (fo_s [] rfl rfl rfl (by kernel_rfl) (by kernel_rfl) (by kernel_rfl) (gi1 rfl rfl rfl (beF k29))) (owF (by kernel_rfl) (fo_s [] rfl rfl rfl (by kernel_rfl) (by kernel_rfl) (by kernel_rfl) (gi1 rfl rfl rfl (beF k29))) (owF (by kernel_rfl) (fo_s [] rfl rfl rfl (by kernel_rfl) (by kernel_rfl) (by kernel_rfl) (gi1 rfl rfl rfl (beF k29))) (oE tbok [] 1 (by kernel_rfl) (oL [] rfl (by kernel_rfl) (fl_lt (lt_pickF rfl rfl k28 rfl)) (owF (by kernel_rfl) (fo_l [] rfl rfl rfl (by kernel_rfl) (by kernel_rfl) (by kernel_rfl) (gi1 rfl rfl rfl (beT k28)) (fl_lt (lt_int rfl rfl rfl rfl))) (owF (by kernel_rfl) (fo_l [] rfl rfl rfl (by kernel_rfl) (by kernel_rfl) (by kernel_rfl) (gi1 rfl rfl rfl (beT k28)) (fl_lt (len_sl (e := e_i64) rfl u33 rfl))) (owF (by kernel_rfl) (fo_l [] rfl rfl rfl (by kernel_rfl) (by kernel_rfl) (by kernel_rfl) (gi1 rfl rfl rfl (beT k28)) (fl_lt (lt_move rfl rfl))) (oE tbok [] 1 (by kernel_rfl) (oL [] rfl (by kernel_rfl) (fl_lt (lt_pickF rfl rfl k27 rfl)) (owF (by kernel_rfl) (fo_l [] rfl rfl rfl (by kernel_rfl) (by kernel_rfl) (by kernel_rfl) (gi1 rfl rfl rfl (beT k27)) (fl_lt (lt_int rfl rfl rfl rfl))) (owF (by kernel_rfl) (fo_l [] rfl rfl rfl (by kernel_rfl) (by kernel_rfl) (by kernel_rfl) (gi1 rfl rfl rfl (beT k27)) (fl_lt (len_sl (e := e_itv_Itv) rfl u40 rfl))) (owF (by kernel_rfl) (fo_l [] rfl rfl rfl (by kernel_rfl) (by kernel_rfl) (by kernel_rfl) (gi1 rfl rfl rfl (beT k27)) (fl_lt (lt_load_box rfl ty40 rfl rfl rfl))) (owF (by kernel_rfl) (fo_l [] rfl rfl rfl (by kernel_rfl) (by kernel_rfl) (by kernel_rfl) (gi1 rfl rfl rfl (beT k27)) (fl_lt (lt_fa_box rfl f49_1 ty40 (by decide) rfl))) (oE tbok [] 1 (by kernel_rfl) (oL [] rfl (by kernel_rfl) (fl_call rfl Try.call10 rfl (by kernel_rfl) (by kernel_rfl) (trans_Empty_meets k26)) (oE tbok [] 1 (by kernel_rfl) trivial)))))))))))))))))))))))))))))))))))))) (sub_cons rfl (sub_cons rfl (sub_cons rfl (sub_cons rfl (sub_cons rfl (sub_cons rfl (sub_cons rfl sub_nil))))))) wM ?_
                        obtain rfl := retE h
                        refine mN ?_
                        refine w_sub (env' := [(7, [.c (.box 0 0)]), (8, [.c (.pv (.int .i64 (IntKind.i64.wrap v3)))]), (10, [.c (.box 2 0)]), (11, [.c (.box 3 0)]), (12, [.c (.pv (.int .i64 x1.1))]), (13, [.c (.box 4 0)]), (105, [.c (.pv (.bool true))])]) (sub_cons rfl (sub_cons rfl (sub_cons rfl (sub_cons rfl (sub_cons rfl (sub_cons rfl (sub_cons rfl sub_nil))))))) ?_
                        refine w_cut 5 rfl rfl rfl rfl ?_
                        exact wkE (by kernel_rfl) (by kernel_rfl)
                      · have h := iteF h k29
                        refine dl (t := 82) 14 [.c (.box 5 0)] rfl ?_
                        refine dl (t := 83) 15 [.c (.pv (.int .i64 v9.2.1.Chan))] rfl ?_
                        refine dl (t := 84) 16 [.c (.pv (.bool (v9.2.1.Chan != 0)))] rfl ?_
                        refine dl (t := 85) 17 [.c (.pv (.bool (v9.2.1.Chan != 0)))] rfl ?_
                        refine dl (t := 86) 18 [.c (.pv (.bool (v9.2.1.Chan != 0)))] rfl ?_
                        refine (tf (v9.2.1.Chan != 0)).elim (fun k30 => ?_) (fun k30 => ?_)
                        · have h := iteT h k30
                          refine ds (t := 87) 19 rfl ?_
                          refine ds (t := 88) 20 rfl ?_
                          refine ds (t := 89) 21 rfl ?_
                          refine ds (t := 90) 22 rfl ?_
                          refine dl (t := 91) 23 [.c (.pv (.bool true))] rfl ?_
                          refine dl (t := 92) 24 [.c (.pv (.bool true))] rfl ?_
                          refine ds (t := 93) 25 rfl ?_
                          refine ds (t := 94) 26 rfl ?_
                          refine ds (t := 95) 27 rfl ?_
                          refine ds (t := 96) 28 rfl ?_
                          refine ds (t := 97) 29 rfl ?_
                          refine ds (t := 98) 30 rfl ?_
                          refine ds (t := 99) 31 rfl ?_
                          refine ds (t := 100) 32 rfl ?_
                          refine ds (t := 101) 33 rfl ?_
                          refine ds (t := 102) 34 rfl ?_
                          refine ds (t := 103) 35 rfl ?_
                          refine ds (t := 104) 36 rfl ?_
                          refine dl (t := 105) 37 [.c (.pv (.bool true))] rfl ?_
                          refine d_endS (env2 := [(105, [.c (.pv (.bool true))]), (7, [.c (.box 0 0)]), (8, [.c (.pv (.int .i64 (IntKind.i64.wrap v3)))]), (10, [.c (.box 2 0)]), (11, [.c (.box 3 0)]), (12, [.c (.pv (.int .i64 x1.1))]), (13, [.c (.box 4 0)])]) (wm [0, 1, 3, 7, 15, 31, 63, 127, 255, 511, 1023, 2047, 4095, 8191, 16383, 32767, 65535, 131071, 262143, 524287, 1048575, 524287, 4194303, 8388607, 16777215, 33554431, 67108863, 134217727, 268435455, 33554431, 570425343, 33554431, 2181038079, 6476005375, 16676552703, 33856421887, 68719476735, 137438953471]) (by kernel_rfl) (by kernel_rfl) (by kernel_rfl) (oL [] rfl (by kernel_rfl) (fl_lt (lt_pickT rfl rfl rfl rfl)) (owF (by kernel_rfl) (fo_s [] rfl rfl rfl (by kernel_rfl) (by kernel_rfl) (by kernel_rfl) (gi1 rfl rfl rfl (beF rfl))) (owF (by kernel_rfl) (fo_s [] rfl rfl rfl (by kernel_rfl) (by kernel_rfl) (by kernel_rfl) (gi1 rfl rfl rfl (beF rfl))) (owF (by kernel_rfl) (fo_s [] rfl rfl rfl (by kernel_rfl) (by kernel_rfl) (by kernel_rfl) (gi1 rfl rfl rfl (beF rfl))) (owF (by kernel_rfl) (fo_s [] rfl rfl rfl (by kernel_rfl) (by kernel_rfl) (by kernel_rfl) (gi1 rfl rfl rfl (beF rfl))) (owF (by kernel_rfl) (fo_s [] rfl rfl rfl (by kernel_rfl) (by kernel_rfl) (by kernel_rfl) (gi1 rfl rfl rfl (beF rfl))) (owF (by kernel_rfl) (fo_s [] rfl rfl rfl (by kernel_rfl) (by kernel_rfl) (by kernel_rfl) (gi1 rfl rfl rfl (beF rfl))) (owF (by kernel_rfl) (fo_s [] rfl rfl rfl (by kernel_rfl) (by kernel_rfl) (by kernel_rfl) (gi1 rfl rfl rfl (beF rfl))) (owF (by kernel_rfl) (fo_s [] rfl rfl rfl (by kernel_rfl) (by kernel_rfl) (by kernel_rfl) (gi1 rfl rfl rfl (beF rfl))) (owF (by kernel_rfl) (fo_s [] rfl rfl rfl (by kernel_rfl) (by kernel_rfl) (by kernel_rfl) (gi1 rfl rfl rfl (beF rfl))) (owF (by kernel_rfl) (fo_s [] rfl rfl rfl (by kernel_rfl) (by kernel_rfl) (by kernel_rfl) (gi1 rfl rfl rfl (beF rfl))) (owF (by kernel_rfl) (fo_s [] rfl rfl rfl (by kernel_rfl) (by kernel_rfl) (by kernel_rfl) (gi1 rfl rfl rfl (beF rfl))) (owF (by kernel_rfl) (fo_s [] rfl rfl rfl (by kernel_rfl) (by kernel_rfl) (by kernel_rfl) (gi1 rfl rfl rfl (beF rfl))) (oE tbok [] 1 (by kernel_rfl) (oL [] rfl (by kernel_rfl) (fl_lt (lt_pickT rfl rfl k30 rfl)) (owF (by kernel_rfl) (fo_s [] rfl rfl rfl (by kernel_rfl) (by kernel_rfl) (by kernel_rfl) (gi1 rfl rfl rfl (beF k30))) (owF (by kernel_rfl) (fo_s [] rfl rfl rfl (by kernel_rfl) (by kernel_rfl) (by kernel_rfl) (gi1 rfl rfl rfl (beF k30))) (owF (by kernel_rfl) (fo_s [] rfl rfl rfl (by kernel_rfl) (by kernel_rfl) (by kernel_rfl) (gi1 rfl rfl rfl (beF k30))) (owF (by kernel_rfl) (fo_s [] rfl rfl rfl (by kernel_rfl) (by kernel_rfl) (by kernel_rfl) (gi1 rfl rfl rfl (beF k30))) (oE tbok [] 1 (by kernel_rfl) (oL [] rfl (by kernel_rfl) (fl_lt (lt_pickF rfl rfl k29 rfl)) (owF (by kernel_rfl) (fo_l [] rfl rfl rfl (by kernel_rfl) (by kernel_rfl) (by kernel_rfl) (gi1 rfl rfl rfl (beT k29)) (fl_lt (lt_int rfl rfl rfl rfl))) (owF (by kernel_rfl) (fo_l [] rfl rfl rfl (by kernel_rfl) (by kernel_rfl) (by kernel_rfl) (gi1 rfl rfl rfl (beT k29)) (fl_lt (lt_load_box rfl ty3 rfl rfl rfl))) (owF (by kernel_rfl) (fo_l [] rfl rfl rfl (by kernel_rfl) (by kernel_rfl) (by kernel_rfl) (gi1 rfl rfl rfl (beT k29)) (fl_lt (lt_fa_box rfl f55_0 ty3 (by decide) rfl))) (oE tbok [] 1 (by kernel_rfl) (oL [] rfl (by kernel_rfl) (fl_lt (lt_pickF rfl rfl k28 rfl)) (owF (by kernel_rfl) (fo_l [] rfl rfl rfl (by kernel_rfl) (by kernel_rfl) (by kernel_rfl) (gi1 rfl rfl rfl (beT k28)) (fl_lt (lt_int rfl rfl rfl rfl))) (owF (by kernel_rfl) (fo_l [] rfl rfl rfl (by kernel_rfl) (by kernel_rfl) (by kernel_rfl) (gi1 rfl rfl rfl (beT k28)) (fl_lt (len_sl (e := e_i64) rfl u33 rfl))) (owF (by kernel_rfl) (fo_l [] rfl rfl rfl (by kernel_rfl) (by kernel_rfl) (by kernel_rfl) (gi1 rfl rfl rfl (beT k28)) (fl_lt (lt_move rfl rfl))) (oE tbok [] 1 (by kernel_rfl) (oL [] rfl (by kernel_rfl) (fl_lt (lt_pickF rfl rfl k27 rfl)) (owF (by kernel_rfl) (fo_l [] rfl rfl rfl (by kernel_rfl) (by kernel_rfl) (by kernel_rfl) (gi1 rfl rfl rfl (beT k27)) (fl_lt (lt_int rfl rfl rfl rfl))) (owF (by kernel_rfl) (fo_l [] rfl rfl rfl (by kernel_rfl) (by kernel_rfl) (by kernel_rfl) (gi1 rfl rfl rfl (beT k27)) (fl_lt (len_sl (e := e_itv_Itv) rfl u40 rfl))) (owF (by kernel_rfl) (fo_l [] rfl rfl rfl (by kernel_rfl) (by kernel_rfl) (by kernel_rfl) (gi1 rfl rfl rfl (beT k27)) (fl_lt (lt_load_box rfl ty40 rfl rfl rfl))) (owF (by kernel_rfl) (fo_l [] rfl rfl rfl (by kernel_rfl) (by kernel_rfl) (by kernel_rfl) (gi1 rfl rfl rfl (beT k27)) (fl_lt (lt_fa_box rfl f49_1 ty40 (by decide) rfl))) (oE tbok [] 1 (by kernel_rfl) (oL [] rfl (by kernel_rfl) (fl_call rfl Try.call10 rfl (by kernel_rfl) (by kernel_rfl) (trans_Empty_meets k26)) (oE tbok [] 1 (by kernel_rfl) trivial)))))))))))))))))))))))))))))))))))))) (sub_cons rfl (sub_cons rfl (sub_cons rfl (sub_cons rfl (sub_cons rfl (sub_cons rfl (sub_cons rfl sub_nil))))))) wM ?_
                          obtain rfl := retE h
                          refine mN ?_
                          refine w_sub (env' := [(7, [.c (.box 0 0)]), (8, [.c (.pv (.int .i64 (IntKind.i64.wrap v3)))]), (10, [.c (.box 2 0)]), (11, [.c (.box 3 0)]), (12, [.c (.pv (.int .i64 x1.1))]), (13, [.c (.box 4 0)]), (105, [.c (.pv (.bool true))])]) (sub_cons rfl (sub_cons rfl (sub_cons rfl (sub_cons rfl (sub_cons rfl (sub_cons rfl (sub_cons rfl sub_nil))))))) ?_
                          refine w_cut 5 rfl rfl rfl rfl ?_
                          exact wkE (by kernel_rfl) (by kernel_rfl)
                        · have h := iteF h k30
                          refine dl (t := 87) 19 [.c (.box 5 2)] rfl ?_
                          refine dl (t := 88) 20 [.agg [.pv (.int .i64 v9.2.1.Vals.Lo), .pv (.int .i64 v9.2.1.Vals.Hi)]] rfl ?_
                          obtain ⟨v16, k32, h⟩ := bindE h
                          refine dl (t := 89) 21 [.agg [.pv (.int .i64 v16.Lo), .pv (.int .i64 v16.Hi)]] rfl ?_
                          refine dl (t := 90) 22 [.c (.pv (.bool (!((v9.2.1.Vals.Lo : Int) == v16.Lo && ((v9.2.1.Vals.Hi : Int) == v16.Hi && true)))))] rfl ?_
                          refine dl (t := 91) 23 [.c (.pv (.bool (!((v9.2.1.Vals.Lo : Int) == v16.Lo && ((v9.2.1.Vals.Hi : Int) == v16.Hi && true)))))] rfl ?_
                          refine dl (t := 92) 24 [.c (.pv (.bool (!((v9.2.1.Vals.Lo : Int) == v16.Lo && ((v9.2.1.Vals.Hi : Int) == v16.Hi && true)))))] rfl ?_
                          refine (tf (!((v9.2.1.Vals.Lo : Int) == v16.Lo && ((v9.2.1.Vals.Hi : Int) == v16.Hi && true)))).elim (fun k33 => ?_) (fun k33 => ?_)
                          · have h := iteT h k33
                            refine ds (t := 93) 25 rfl ?_
                            refine ds (t := 94) 26 rfl ?_
                            refine ds (t := 95) 27 rfl ?_
                            refine ds (t := 96) 28 rfl ?_
                            refine ds (t := 97) 29 rfl ?_
                            refine ds (t := 98) 30 rfl ?_
                            refine ds (t := 99) 31 rfl ?_
                            refine ds (t := 100) 32 rfl ?_
                            refine ds (t := 101) 33 rfl ?_
                            refine ds (t := 102) 34 rfl ?_
                            refine ds (t := 103) 35 rfl ?_
                            refine ds (t := 104) 36 rfl ?_
                            refine dl (t := 105) 37 [.c (.pv (.bool true))] rfl ?_
                            refine d_endS (env2 := [(105, [.c (.pv (.bool true))]), (7, [.c (.box 0 0)]), (8, [.c (.pv (.int .i64 (IntKind.i64.wrap v3)))]), (10, [.c (.box 2 0)]), (11, [.c (.box 3 0)]), (12, [.c (.pv (.int .i64 x1.1))]), (13, [.c (.box 4 0)])]) (wm [0, 1, 3, 7, 15, 31, 63, 127, 255, 511, 1023, 2047, 4095, 8191, 16383, 32767, 65535, 131071, 262143, 524287, 1048575, 524287, 4194303, 8388607, 16777215, 33554431, 67108863, 134217727, 268435455, 33554431, 570425343, 33554431, 2181038079, 6476005375, 16676552703, 33856421887, 68719476735, 137438953471]) (by kernel_rfl) (by kernel_rfl) (by kernel_rfl) (oL [] rfl (by kernel_rfl) (fl_lt (lt_pickT rfl rfl k33 rfl)) (owF (by kernel_rfl) (fo_s [] rfl rfl rfl (by kernel_rfl) (by kernel_rfl) (by kernel_rfl) (gi1 rfl rfl rfl (beF k33))) (owF (by kernel_rfl) (fo_s [] rfl rfl rfl (by kernel_rfl) (by kernel_rfl) (by kernel_rfl) (gi1 rfl rfl rfl (beF k33))) (owF (by kernel_rfl) (fo_s [] rfl rfl rfl (by kernel_rfl) (by kernel_rfl) (by kernel_rfl) (gi1 rfl rfl rfl (beF k33))) (owF (by kernel_rfl) (fo_s [] rfl rfl rfl (by kernel_rfl) (by kernel_rfl) (by kernel_rfl) (gi1 rfl rfl rfl (beF k33))) (owF (by kernel_rfl) (fo_s [] rfl rfl rfl (by kernel_rfl) (by kernel_rfl) (by kernel_rfl) (gi1 rfl rfl rfl (beF k33))) (owF (by kernel_rfl) (fo_s [] rfl rfl rfl (by kernel_rfl) (by kernel_rfl) (by kernel_rfl) (gi1 rfl rfl rfl (beF k33))) (owF (by kernel_rfl) (fo_s [] rfl rfl rfl (by kernel_rfl) (by kernel_rfl) (by kernel_rfl) (gi1 rfl rfl rfl (beF k33))) (owF (by kernel_rfl) (fo_s [] rfl rfl rfl (by kernel_rfl) (by kernel_rfl) (by kernel_rfl) (gi1 rfl rfl rfl (beF k33))) (owF (by kernel_rfl) (fo_s [] rfl rfl rfl (by kernel_rfl) (by kernel_rfl) (by kernel_rfl) (gi1 rfl rfl rfl (beF k33))) (owF (by kernel_rfl) (fo_s [] rfl rfl rfl (by kernel_rfl) (by kernel_rfl) (by kernel_rfl) (gi1 rfl rfl rfl (beF k33))) (owF (by kernel_rfl) (fo_s [] rfl rfl rfl (by kernel_rfl) (by kernel_rfl) (by kernel_rfl) (gi1 rfl rfl rfl (beF k33))) (owF (by kernel_rfl) (fo_s [] rfl rfl rfl (by kernel_rfl) (by kernel_rfl) (by kernel_rfl) (gi1 rfl rfl rfl (beF k33))) (oE tbok [] 1 (by kernel_rfl) (oL [] rfl (by kernel_rfl) (fl_lt (lt_pickF rfl rfl k30 rfl)) (owF (by kernel_rfl) (fo_l [] rfl rfl rfl (by kernel_rfl) (by kernel_rfl) (by kernel_rfl) (gi1 rfl rfl rfl (beT k30)) (fl_lt (lt_eqStruct (r := ((v9.2.1.Vals.Lo : Int) == v16.Lo && ((v9.2.1.Vals.Hi : Int) == v16.Hi && true))) rfl u53 sp53 eg53 rfl rfl (by kernel_rfl) (.inr ⟨rfl, rfl⟩)))) (owF (by kernel_rfl) (fo_l [] rfl rfl rfl (by kernel_rfl) (by kernel_rfl) (by kernel_rfl) (gi1 rfl rfl rfl (beT k30)) (fl_call rfl Try.call15 rfl (by kernel_rfl) (by kernel_rfl) (itv_Const_meets k32))) (owF (by kernel_rfl) (fo_l [] rfl rfl rfl (by kernel_rfl) (by kernel_rfl) (by kernel_rfl) (gi1 rfl rfl rfl (beT k30)) (fl_lt (lt_load_boxA (ys := [.pv (.int .i64 v9.2.1.Vals.Lo), .pv (.int .i64 v9.2.1.Vals.Hi)]) rfl ty53 rfl rfl (by kernel_rfl) (by kernel_rfl)))) (owF (by kernel_rfl) (fo_l [] rfl rfl rfl (by kernel_rfl) (by kernel_rfl) (by kernel_rfl) (gi1 rfl rfl rfl (beT k30)) (fl_lt (lt_fa_box rfl f55_2 ty53 (by decide) rfl))) (oE tbok [] 1 (by kernel_rfl) (oL [] rfl (by kernel_rfl) (fl_lt (lt_pickF rfl rfl k29 rfl)) (owF (by kernel_rfl) (fo_l [] rfl rfl rfl (by kernel_rfl) (by kernel_rfl) (by kernel_rfl) (gi1 rfl rfl rfl (beT k29)) (fl_lt (lt_int rfl rfl rfl rfl))) (owF (by kernel_rfl) (fo_l [] rfl rfl rfl (by kernel_rfl) (by kernel_rfl) (by kernel_rfl) (gi1 rfl rfl rfl (beT k29)) (fl_lt (lt_load_box rfl ty3 rfl rfl rfl))) (owF (by kernel_rfl) (fo_l [] rfl rfl rfl (by kernel_rfl) (by kernel_rfl) (by kernel_rfl) (gi1 rfl rfl rfl (beT k29)) (fl_lt (lt_fa_box rfl f55_0 ty3 (by decide) rfl))) (oE tbok [] 1 (by kernel_rfl) (oL [] rfl (by kernel_rfl) (fl_lt (lt_pickF rfl rfl k28 rfl)) (owF (by kernel_rfl) (fo_l [] rfl rfl rfl (by kernel_rfl) (by kernel_rfl) (by kernel_rfl) (gi1 rfl rfl rfl (beT k28)) (fl_lt (lt_int rfl rfl rfl rfl))) (owF (by kernel_rfl) (fo_l [] rfl rfl rfl (by kernel_rfl) (by kernel_rfl) (by kernel_rfl) (gi1 rfl rfl rfl (beT k28)) (fl_lt (len_sl (e := e_i64) rfl u33 rfl))) (owF (by kernel_rfl) (fo_l [] rfl rfl rfl (by kernel_rfl) (by kernel_rfl) (by kernel_rfl) (gi1 rfl rfl rfl (beT k28)) (fl_lt (lt_move rfl rfl))) (oE tbok [] 1 (by kernel_rfl) (oL [] rfl (by kernel_rfl) (fl_lt (lt_pickF rfl rfl k27 rfl)) (owF (by kernel_rfl) (fo_l [] rfl rfl rfl (by kernel_rfl) (by kernel_rfl) (by kernel_rfl) (gi1 rfl rfl rfl (beT k27)) (fl_lt (lt_int rfl rfl rfl rfl))) (owF (by kernel_rfl) (fo_l [] rfl rfl rfl (by kernel_rfl) (by kernel_rfl) (by kernel_rfl) (gi1 rfl rfl rfl (beT k27)) (fl_lt (len_sl (e := e_itv_Itv) rfl u40 rfl))) (owF (by kernel_rfl) (fo_l [] rfl rfl rfl (by kernel_rfl) (by kernel_rfl) (by kernel_rfl) (gi1 rfl rfl rfl (beT k27)) (fl_lt (lt_load_box rfl ty40 rfl rfl rfl))) (owF (by kernel_rfl) (fo_l [] rfl rfl rfl (by kernel_rfl) (by kernel_rfl) (by kernel_rfl) (gi1 rfl rfl rfl (beT k27)) (fl_lt (lt_fa_box rfl f49_1 ty40 (by decide) rfl))) (oE tbok [] 1 (by kernel_rfl) (oL [] rfl (by kernel_rfl) (fl_call rfl Try.call10 rfl (by kernel_rfl) (by kernel_rfl) (trans_Empty_meets k26)) (oE tbok [] 1 (by kernel_rfl) trivial)))))))))))))))))))))))))))))))))))))) (sub_cons rfl (sub_cons rfl (sub_cons rfl (sub_cons rfl (sub_cons rfl (sub_cons rfl (sub_cons rfl sub_nil))))))) wM ?_
                            obtain rfl := retE h
                            refine mN ?_
                            refine w_sub (env' := [(7, [.c (.box 0 0)]), (8, [.c (.pv (.int .i64 (IntKind.i64.wrap v3)))]), (10, [.c (.box 2 0)]), (11, [.c (.box 3 0)]), (12, [.c (.pv (.int .i64 x1.1))]), (13, [.c (.box 4 0)]), (105, [.c (.pv (.bool true))])]) (sub_cons rfl (sub_cons rfl (sub_cons rfl (sub_cons rfl (sub_cons rfl (sub_cons rfl (sub_cons rfl sub_nil))))))) ?_
                            refine w_cut 5 rfl rfl rfl rfl ?_
                            exact wkE (by kernel_rfl) (by kernel_rfl)
                          · have h := iteF h k33
                            refine dl (t := 93) 25 [.c (.box 4 53)] rfl ?_
                            refine dl (t := 94) 26 [.c (.pv (.sl (List.map e_itv_Itv v9.1.Counts)))] rfl ?_
                            obtain ⟨v17, k34, h⟩ := bindE h
                            refine dl (t := 95) 27 [.c (.ep [.int .i64 v17.Lo, .int .i64 v17.Hi])] rfl ?_
                            refine dl (t := 96) 28 [.agg [.pv (.int .i64 v17.Lo), .pv (.int .i64 v17.Hi)]] rfl ?_
                            refine dl (t := 97) 29 [.c (.pv (.int .i64 x1.1))] rfl ?_
                            refine dl (t := 98) 30 [.c (.pv (.int .i64 (IntKind.i64.wrap (x1.1 + 1))))] rfl ?_
                            refine dl (t := 99) 31 [.c (.box 0 1)] rfl ?_
                            refine dl (t := 100) 32 [.c (.pv (.int .i64 (IntKind.i64.wrap (1 + (IntKind.i64.wrap v2)))))] rfl ?_
                            refine dl (t := 101) 33 [.c (.pv (.int .i64 (IntKind.i64.wrap ((IntKind.i64.wrap (1 + (IntKind.i64.wrap v2))) + 1))))] rfl ?_
                            refine dl (t := 102) 34 [.c (.pv (.int .i64 (min (IntKind.i64.wrap (x1.1 + 1)) (IntKind.i64.wrap ((IntKind.i64.wrap (1 + (IntKind.i64.wrap v2))) + 1)))))] rfl ?_
                            obtain ⟨v19, k36, h⟩ := bindE h
                            refine dl (t := 103) 35 [.agg [.pv (.int .i64 v19.Lo), .pv (.int .i64 v19.Hi)]] rfl ?_
                            refine dl (t := 104) 36 [.c (.pv (.bool (!((v17.Lo : Int) == v19.Lo && ((v17.Hi : Int) == v19.Hi && true)))))] rfl ?_
                            refine dl (t := 105) 37 [.c (.pv (.bool (!((v17.Lo : Int) == v19.Lo && ((v17.Hi : Int) == v19.Hi && true)))))] rfl ?_
                            refine d_endS (env2 := [(105, [.c (.pv (.bool (!((v17.Lo : Int) == v19.Lo && ((v17.Hi : Int) == v19.Hi && true)))))]), (7, [.c (.box 0 0)]), (8, [.c (.pv (.int .i64 (IntKind.i64.wrap v3)))]), (10, [.c (.box 2 0)]), (11, [.c (.box 3 0)]), (12, [.c (.pv (.int .i64 x1.1))]), (13, [.c (.box 4 0)])]) (wm [0, 1, 3, 7, 15, 31, 63, 127, 255, 511, 1023, 2047, 4095, 8191, 16383, 32767, 65535, 131071, 262143, 524287, 1048575, 524287, 4194303, 8388607, 16777215, 33554431, 67108863, 134217727, 268435455, 33554431, 570425343, 33554431, 2181038079, 6476005375, 16676552703, 33856421887, 68719476735, 137438953471]) (by kernel_rfl) (by kernel_rfl) (by kernel_rfl) (oL [] rfl (by kernel_rfl) (fl_lt (lt_pickF rfl rfl k33 rfl)) (owF (by kernel_rfl) (fo_l [] rfl rfl rfl (by kernel_rfl) (by kernel_rfl) (by kernel_rfl) (gi1 rfl rfl rfl (beT k33)) (fl_lt (lt_eqStruct (r := ((v17.Lo : Int) == v19.Lo && ((v17.Hi : Int) == v19.Hi && true))) rfl u53 sp53 eg53 rfl rfl (by kernel_rfl) (.inr ⟨rfl, rfl⟩)))) (owF (by kernel_rfl) (fo_l [] rfl rfl rfl (by kernel_rfl) (by kernel_rfl) (by kernel_rfl) (gi1 rfl rfl rfl (beT k33)) (fl_call rfl Try.call15 rfl (by kernel_rfl) (by kernel_rfl) (itv_Const_meets k36))) (owF (by kernel_rfl) (fo_l [] rfl rfl rfl (by kernel_rfl) (by kernel_rfl) (by kernel_rfl) (gi1 rfl rfl rfl (beT k33)) (fl_lt (lt_min2 rfl rfl rfl))) (owF (by kernel_rfl) (fo_l [] rfl rfl rfl (by kernel_rfl) (by kernel_rfl) (by kernel_rfl) (gi1 rfl rfl rfl (beT k33)) (fl_lt (lt_int rfl rfl rfl rfl))) (owF (by kernel_rfl) (fo_l [] rfl rfl rfl (by kernel_rfl) (by kernel_rfl) (by kernel_rfl) (gi1 rfl rfl rfl (beT k33)) (fl_lt (lt_load_box rfl ty3 rfl rfl rfl))) (owF (by kernel_rfl) (fo_l [] rfl rfl rfl (by kernel_rfl) (by kernel_rfl) (by kernel_rfl) (gi1 rfl rfl rfl (beT k33)) (fl_lt (lt_fa_box rfl f73_1 ty3 (by decide) rfl))) (owF (by kernel_rfl) (fo_l [] rfl rfl rfl (by kernel_rfl) (by kernel_rfl) (by kernel_rfl) (gi1 rfl rfl rfl (beT k33)) (fl_lt (lt_int rfl rfl rfl rfl))) (owF (by kernel_rfl) (fo_l [] rfl rfl rfl (by kernel_rfl) (by kernel_rfl) (by kernel_rfl) (gi1 rfl rfl rfl (beT k33)) (fl_lt (lt_move rfl rfl))) (owF (by kernel_rfl) (fo_l [] rfl rfl rfl (by kernel_rfl) (by kernel_rfl) (by kernel_rfl) (gi1 rfl rfl rfl (beT k33)) (fl_lt (lt_load_epA (ys := [.pv (.int .i64 v17.Lo), .pv (.int .i64 v17.Hi)]) rfl ty53 rfl (Nat.le_of_ble_eq_true rfl) (by kernel_rfl)))) (owF (by kernel_rfl) (fo_l [] rfl rfl rfl (by kernel_rfl) (by kernel_rfl) (by kernel_rfl) (gi1 rfl rfl rfl (beT k33)) (fl_lt (ia_sl (e := e_itv_Itv) (y := v17) rfl u40 ty53 rfl rfl k34 rfl))) (owF (by kernel_rfl) (fo_l [] rfl rfl rfl (by kernel_rfl) (by kernel_rfl) (by kernel_rfl) (gi1 rfl rfl rfl (beT k33)) (fl_lt (lt_load_box rfl ty40 rfl rfl rfl))) (owF (by kernel_rfl) (fo_l [] rfl rfl rfl (by kernel_rfl) (by kernel_rfl) (by kernel_rfl) (gi1 rfl rfl rfl (beT k33)) (fl_lt (lt_fa_box rfl f49_1 ty40 (by decide) rfl))) (oE tbok [] 1 (by kernel_rfl) (oL [] rfl (by kernel_rfl) (fl_lt (lt_pickF rfl rfl k30 rfl)) (owF (by kernel_rfl) (fo_l [] rfl rfl rfl (by kernel_rfl) (by kernel_rfl) (by kernel_rfl) (gi1 rfl rfl rfl (beT k30)) (fl_lt (lt_eqStruct (r := ((v9.2.1.Vals.Lo : Int) == v16.Lo && ((v9.2.1.Vals.Hi : Int) == v16.Hi && true))) rfl u53 sp53 eg53 rfl rfl (by kernel_rfl) (.inr ⟨rfl, rfl⟩)))) (owF (by kernel_rfl) (fo_l [] rfl rfl rfl (by kernel_rfl) (by kernel_rfl) (by kernel_rfl) (gi1 rfl rfl rfl (beT k30)) (fl_call rfl Try.call15 rfl (by kernel_rfl) (by kernel_rfl) (itv_Const_meets k32))) (owF (by kernel_rfl) (fo_l [] rfl rfl rfl (by kernel_rfl) (by kernel_rfl) (by kernel_rfl) (gi1 rfl rfl rfl (beT k30)) (fl_lt (lt_load_boxA (ys := [.pv (.int .i64 v9.2.1.Vals.Lo), .pv (.int .i64 v9.2.1.Vals.Hi)]) rfl ty53 rfl rfl (by kernel_rfl) (by kernel_rfl)))) (owF (by kernel_rfl) (fo_l [] rfl rfl rfl (by kernel_rfl) (by kernel_rfl) (by kernel_rfl) (gi1 rfl rfl rfl (beT k30)) (fl_lt (lt_fa_box rfl f55_2 ty53 (by decide) rfl))) (oE tbok [] 1 (by kernel_rfl) (oL [] rfl (by kernel_rfl) (fl_lt (lt_pickF rfl rfl k29 rfl)) (owF (by kernel_rfl) (fo_l [] rfl rfl rfl (by kernel_rfl) (by kernel_rfl) (by kernel_rfl) (gi1 rfl rfl rfl (beT k29)) (fl_lt (lt_int rfl rfl rfl rfl))) (owF (by kernel_rfl) (fo_l [] rfl rfl rfl (by kernel_rfl) (by kernel_rfl) (by kernel_rfl) (gi1 rfl rfl rfl (beT k29)) (fl_lt (lt_load_box rfl ty3 rfl rfl rfl))) (owF (by kernel_rfl) (fo_l [] rfl rfl rfl (by kernel_rfl) (by kernel_rfl) (by kernel_rfl) (gi1 rfl rfl rfl (beT k29)) (fl_lt (lt_fa_box rfl f55_0 ty3 (by decide) rfl))) (oE tbok [] 1 (by kernel_rfl) (oL [] rfl (by kernel_rfl) (fl_lt (lt_pickF rfl rfl k28 rfl)) (owF (by kernel_rfl) (fo_l [] rfl rfl rfl (by kernel_rfl) (by kernel_rfl) (by kernel_rfl) (gi1 rfl rfl rfl (beT k28)) (fl_lt (lt_int rfl rfl rfl rfl))) (owF (by kernel_rfl) (fo_l [] rfl rfl rfl (by kernel_rfl) (by kernel_rfl) (by kernel_rfl) (gi1 rfl rfl rfl (beT k28)) (fl_lt (len_sl (e := e_i64) rfl u33 rfl))) (owF (by kernel_rfl) (fo_l [] rfl rfl rfl (by kernel_rfl) (by kernel_rfl) (by kernel_rfl) (gi1 rfl rfl rfl (beT k28)) (fl_lt (lt_move rfl rfl))) (oE tbok [] 1 (by kernel_rfl) (oL [] rfl (by kernel_rfl) (fl_lt (lt_pickF rfl rfl k27 rfl)) (owF (by kernel_rfl) (fo_l [] rfl rfl rfl (by kernel_rfl) (by kernel_rfl) (by kernel_rfl) (gi1 rfl rfl rfl (beT k27)) (fl_lt (lt_int rfl rfl rfl rfl))) (owF (by kernel_rfl) (fo_l [] rfl rfl rfl (by kernel_rfl) (by kernel_rfl) (by kernel_rfl) (gi1 rfl rfl rfl (beT k27)) (fl_lt (len_sl (e := e_itv_Itv) rfl u40 rfl))) (owF (by kernel_rfl) (fo_l [] rfl rfl rfl (by kernel_rfl) (by kernel_rfl) (by kernel_rfl) (gi1 rfl rfl rfl (beT k27)) (fl_lt (lt_load_box rfl ty40 rfl rfl rfl))) (owF (by kernel_rfl) (fo_l [] rfl rfl rfl (by kernel_rfl) (by kernel_rfl) (by kernel_rfl) (gi1 rfl rfl rfl (beT k27)) (fl_lt (lt_fa_box rfl f49_1 ty40 (by decide) rfl))) (oE tbok [] 1 (by kernel_rfl) (oL [] rfl (by kernel_rfl) (fl_call rfl Try.call10 rfl (by kernel_rfl) (by kernel_rfl) (trans_Empty_meets k26)) (oE tbok [] 1 (by kernel_rfl) trivial)))))))))))))))))))))))))))))))))))))) (sub_cons rfl (sub_cons rfl (sub_cons rfl (sub_cons rfl (sub_cons rfl (sub_cons rfl (sub_cons rfl sub_nil))))))) wM ?_
                            obtain rfl := retE h
                            refine mN ?_
                            refine w_sub (env' := [(7, [.c (.box 0 0)]), (8, [.c (.pv (.int .i64 (IntKind.i64.wrap v3)))]), (10, [.c (.box 2 0)]), (11, [.c (.box 3 0)]), (12, [.c (.pv (.int .i64 x1.1))]), (13, [.c (.box 4 0)]), (105, [.c (.pv (.bool (!((v17.Lo : Int) == v19.Lo && ((v17.Hi : Int) == v19.Hi && true)))))])]) (sub_cons rfl (sub_cons rfl (sub_cons rfl (sub_cons rfl (sub_cons rfl (sub_cons rfl (sub_cons rfl sub_nil))))))) ?_
                            refine w_cut 5 rfl rfl rfl rfl ?_
                            exact wkE (by kernel_rfl) (by kernel_rfl)
                · refine then_ ?_
                  refine cond_ (b := j7) rfl (fun k37 => ?_) (fun k37 => ?_)
                  · have h := iteT h k37
                    refine seq_ ?_
                    refine region_ ?_
                    refine R tbok 1 [6, 7, 8, 10, 11, 12, 13] [(6, [.c (.pv (.bool false))]), (7, [.c (.box 0 0)]), (8, [.c (.pv (.int .i64 (IntKind.i64.wrap v3)))]), (10, [.c (.box 2 0)]), (11, [.c (.box 3 0)]), (12, [.c (.pv (.int .i64 x1.1))]), (13, [.c (.box 4 0)])] (by kernel_rfl) ?_
                    refine ops_nil ?_
                    refine then_ ?_
                    refine ret_ ?_
                    obtain rfl := retE h
                    refine bR (mRR (rw_ (.tmp rfl .nil) ?_))
                    refine w_none 0 .z ?_
                    refine w_none 2 (.s (.s .z)) ?_
                    refine w_none 3 (.s (.s (.s .z))) ?_
                    refine w_none 4 (.s (.s (.s (.s .z)))) ?_
                    refine w_cut 0 rfl rfl rfl rfl ?_
                    exact wkE (by kernel_rfl) (by kernel_rfl)
                  · have h := iteF h k37
                    refine skip_ ?_
                    refine bN ?_
                    obtain rfl := retE h
                    refine mRN ?_
                    refine w_sub (env' := [(7, [.c (.box 0 0)]), (8, [.c (.pv (.int .i64 (IntKind.i64.wrap v3)))]), (10, [.c (.box 2 0)]), (11, [.c (.box 3 0)]), (12, [.c (.pv (.int .i64 x1.1))]), (13, [.c (.box 4 0)])]) (sub_cons rfl (sub_cons rfl (sub_cons rfl (sub_cons rfl (sub_cons rfl (sub_cons rfl sub_nil)))))) ?_
                    exact wkE (by kernel_rfl) (by kernel_rfl)
      · have h := elimL h
        obtain rfl := retE h
        exact (tR (bR (tR (lR hs))))
      · have h := elimR h
        refine then_ ?_
        refine seq_ ?_
        refine seq_ ?_
        refine region_ ?_
        refine R tbok 1 [152, 7, 8, 10, 11, 12, 13] [(152, [.agg (bs (e_trans_State v9.1))]), (7, [.c (.box 0 0)]), (8, [.c (.pv (.int .i64 (IntKind.i64.wrap v3)))]), (10, [.c (.box 2 0)]), (11, [.c (.box 3 0)]), (12, [.c (.pv (.int .i64 x1.1))]), (13, [.c (.box 4 0)])] (by kernel_rfl) ?_
        obtain ⟨v20, k38, h⟩ := bindE h
        refine C rfl rfl (fl_call rfl Try.call10 rfl (by kernel_rfl) (by kernel_rfl) (trans_Empty_meets k38)) rfl ?_
        refine ops_nil ?_
        refine then_ ?_
        refine cond_ (b := v20) rfl (fun k39 => ?_) (fun k39 => ?_)
        · have h := iteT h k39
          refine exit_ ?_
          refine tX ?_
          refine bM rfl ?_
          refine tX ?_
          obtain rfl := retE h
          refine lX ?_
          refine w_sub (env' := [(10, [.c (.box 2 0)])]) (sub_cons rfl sub_nil) ?_
          refine w_none 0 .z ?_
          refine w_cut 3 rfl rfl rfl rfl ?_
          exact wkE (by kernel_rfl) (by kernel_rfl)
        · have h := iteF h k39
          refine skip_ ?_
          refine then_ ?_
          refine region_ ?_
          refine R tbok 1 [154, 7, 8, 10, 11, 12] [(154, [.agg (bs (e_trans_State v9.1))]), (7, [.c (.box 0 0)]), (8, [.c (.pv (.int .i64 (IntKind.i64.wrap v3)))]), (10, [.c (.box 2 0)]), (11, [.c (.box 3 0)]), (12, [.c (.pv (.int .i64 x1.1))])] (by kernel_rfl) ?_
          refine S rfl rfl rfl ty49 (by decide) rfl rfl rfl rfl rfl (.all rfl) (.s (.s (.s .z))) ?_
          refine ops_nil ?_
          refine bN ?_
          refine then_ ?_
          refine region_ ?_
          refine R tbok 3 [12, 7, 8, 10, 11] [(12, [.c (.pv (.int .i64 (IntKind.i64.wrap (x1.1 + 1))))]), (7, [.c (.box 0 0)]), (8, [.c (.pv (.int .i64 (IntKind.i64.wrap v3)))]), (10, [.c (.box 2 0)]), (11, [.c (.box 3 0)])] (by kernel_rfl) ?_
          refine ops_nil ?_
          obtain rfl := retE h
          refine lN ?_
          refine w_sub (env' := [(7, [.c (.box 0 0)]), (8, [.c (.pv (.int .i64 (IntKind.i64.wrap v3)))]), (10, [.c (.box 2 0)]), (11, [.c (.box 3 0)]), (12, [.c (.pv (.int .i64 (IntKind.i64.wrap (x1.1 + 1))))])]) (sub_cons rfl (sub_cons rfl (sub_cons rfl (sub_cons rfl (sub_cons rfl sub_nil))))) ?_
          refine w_cut 4 rfl rfl rfl rfl ?_
          exact wkE (by kernel_rfl) (by kernel_rfl)
    · have h := iteF h k9
      refine exit_ ?_
      refine tX ?_
      obtain rfl := retE h
      refine lX ?_
      refine w_sub (env' := [(10, [.c (.box 2 0)])]) (sub_cons rfl sub_nil) ?_
      refine w_none 0 .z ?_
      refine w_cut 3 rfl rfl rfl rfl ?_
      exact wkE (by kernel_rfl) (by kernel_rfl)
  · cases h
  · have h := elimR h
    refine then_ ?_
    refine seq_ ?_
    refine jn_ (fun (j8 : Bool) => (⟨162, 0, [(6, [.c (.pv (.bool j8))])], []⟩ : Sx)) h wT (fun o h => ?_) (fun j8 h => ?_)
    · refine region_ ?_
      obtain ⟨v21, k40, h⟩ := bindE h
      refine C rfl rfl (fl_call rfl Try.call12 rfl (by kernel_rfl) (by kernel_rfl) (l14_steps_meets k40)) rfl ?_
      refine R tbok 1 [156, 10] [(156, [.c (.pv (.bool v21))]), (10, [.c (.box 2 0)])] (by kernel_rfl) ?_
      refine (tf v21).elim (fun k41 => ?_) (fun k41 => ?_)
      · have h := iteT h k41
        refine Lg rfl rfl rfl k41 rfl (lt_fa_box rfl f61_2 ty59 (by decide) rfl) rfl ?_
        refine Lg rfl rfl rfl k41 rfl (lt_load_box rfl ty59 rfl rfl rfl) rfl ?_
        obtain ⟨v22, k42, h⟩ := bindE h
        refine Lg rfl rfl rfl k41 rfl (ia_sl (e := e_bool) (y := v22) rfl u59 ty4 rfl rfl k42 rfl) rfl ?_
        refine Lg rfl rfl rfl k41 rfl (lt_load_ep rfl ty4 rfl) rfl ?_
        refine L rfl rfl (lt_pickT rfl rfl k41 rfl) rfl ?_
        refine R tbok 1 [6] [(6, [.c (.pv (.bool v22))])] (by kernel_rfl) ?_
        refine ops_nil ?_
        obtain rfl := retE h
        refine mN ?_
        refine w_cut 0 rfl rfl rfl rfl ?_
        exact wkE (by kernel_rfl) (by kernel_rfl)
      · have h := iteF h k41
        refine Ls0 rfl rfl rfl k41 rfl rfl ?_
        refine Ls0 rfl rfl rfl k41 rfl rfl ?_
        refine Ls0 rfl rfl rfl k41 rfl rfl ?_
        refine Ls0 rfl rfl rfl k41 rfl rfl ?_
        refine L rfl rfl (lt_pickF rfl rfl k41 rfl) rfl ?_
        refine R tbok 1 [6] [(6, [.c (.pv (.bool false))])] (by kernel_rfl) ?_
        refine ops_nil ?_
        obtain rfl := retE h
        refine mN ?_
        refine w_cut 0 rfl rfl rfl rfl ?_
        exact wkE (by kernel_rfl) (by kernel_rfl)
    · refine then_ ?_
      refine ret_ ?_
      obtain rfl := retE h
      refine rwr (rw_ (.tmp rfl .nil) ?_)
      exact wkE (by kernel_rfl) (by kernel_rfl)
end Go.Proofs.Ytbebnddalipfhaa.Abs
