/- Gb: the walks. -/
import Derived.Test.YtbebnddalipfhaaGbW3
namespace Go.Proofs.Ytbebnddalipfhaa.Abs
open Go Go.RowKit
set_option linter.unusedVariables false
set_option maxRecDepth 100000
set_option maxHeartbeats 4000000
theorem l14_TransErrors_meets {a0 : (Nat → Int)} {a1 : (Nat → Int)} {a2 : Int} {r : Bool} (h : l14_TransErrors a0 a1 a2 = some r) : MeetsV Try.prog GG 3 [.agg [.pv (.int .i32 (a0 0)), .pv (.int .i32 (a0 1))], .agg [.pv (.int .i32 (a1 0)), .pv (.int .i32 (a1 1))], .c (.pv (.int .i64 a2))] [.c (.pv (.bool r))] := by
  refine MeetsS.toV (meetsW_of (st0 := []) (N := 134) r_l14_TransErrors o_l14_TransErrors r Try.func3 rfl rfl rfl (by dsimp only [argEnv]) rfl ?_) rfl
  unfold l14_TransErrors at h
  refine seq_ ?_
  refine region_ ?_
  refine B rfl rfl (bir_box rfl rfl rfl) rfl rfl .z ?_
  refine B rfl rfl (bir_box rfl rfl rfl) rfl rfl (.s .z) ?_
  refine R tbok 1 [6, 4, 3, 2] [(6, [.c (.pv (.bool false))]), (4, [.c (.box 1 0)]), (3, [.c (.box 0 0)]), (2, [.c (.pv (.int .i64 a2))])] (by kernel_rfl) ?_
  refine ops_nil ?_
  refine then_ ?_
  refine seq_ ?_
  refine drawn_ mixed ?_
  refine dl (t := 21) 0 [.agg [.pv (.int .i64 2), .pv (.int .i64 0), .pv (.int .i64 0), .emp]] rfl ?_
  refine dl (t := 22) 1 [.c (.box 1 0)] rfl ?_
  refine dl (t := 23) 2 [.c (.pv (.int .i32 (a1 0)))] rfl ?_
  refine dl (t := 24) 3 [.c (.pv (.int .u32 (IntKind.u32.wrap (a1 0))))] rfl ?_
  obtain ⟨v1, k1, h⟩ := bindE h
  refine dl (t := 25) 4 [.c (.pv (.int .u32 v1))] rfl ?_
  refine dl (t := 26) 5 [.c (.pv (.int .i64 (IntKind.i64.wrap v1)))] rfl ?_
  refine dl (t := 27) 6 [.agg [.pv (.int .i64 1), .pv (.int .i64 (IntKind.i64.wrap v1)), .pv (.int .i64 0), .emp]] rfl ?_
  refine db (t := 7) 7 2 [.c (.box 2 0)] ((.box true 25 [.pv (.int .i64 0), .pv (.int .i64 0), .pv (.int .i64 0), .emp])) rfl rfl (Push.eq (.s (.s .z))) ?_
  refine db (t := 8) 8 3 [.c (.box 3 0)] ((.box true 25 [.pv (.int .i64 0), .pv (.int .i64 0), .pv (.int .i64 0), .emp])) rfl rfl (Push.eq (.s (.s (.s .z)))) ?_
  refine d_store (wm [0, 0, 2, 6, 14, 30, 62, 0, 0, 385, 1023]) 9 rfl (by kernel_rfl) (by kernel_rfl) (by kernel_rfl) (by kernel_rfl) (by kernel_rfl) (gi0 rfl) (owF (by kernel_rfl) (fo_b [3, 2] rfl rfl rfl (by kernel_rfl) (by kernel_rfl) (by kernel_rfl) (gi0 rfl) (bir_alloc rfl z25 rfl rfl) (by kernel_rfl) (by kernel_rfl)) (owF (by kernel_rfl) (fo_b [3, 2] rfl rfl rfl (by kernel_rfl) (by kernel_rfl) (by kernel_rfl) (gi0 rfl) (bir_alloc rfl z25 rfl rfl) (by kernel_rfl) (by kernel_rfl)) (oL [3, 2] rfl (by kernel_rfl) (fl_lt (lt_build (cs := [.pv (.int .i64 1), .pv (.int .i64 (IntKind.i64.wrap v1)), .pv (.int .i64 0), .emp]) rfl st25 rfl (by kernel_rfl))) (oE tbok [3, 2] 1 (by kernel_rfl) (oL [3, 2] rfl (by kernel_rfl) (fl_lt (rem_ rfl rfl rfl k1)) (oE tbok [3, 2] 2 (by kernel_rfl) (oL [3, 2] rfl (by kernel_rfl) (fl_lt (ia_box rfl u22 ty21 rfl rfl rfl 0 rfl)) (oL [3, 2] rfl (by kernel_rfl) (fl_lt (lt_build (cs := [.pv (.int .i64 2), .pv (.int .i64 0), .pv (.int .i64 0), .emp]) rfl st25 rfl (by kernel_rfl))) trivial)))))))) rfl rfl ty25 rfl rfl rfl rfl rfl rfl (putE 4 (.all rfl) rfl (by decide)) (SetAt.eq (.s (.s .z))) ?_
  refine d_store (wm [0, 0, 2, 6, 14, 30, 62, 0, 0, 385, 1023]) 10 rfl (by kernel_rfl) (by kernel_rfl) (by kernel_rfl) (by kernel_rfl) (by kernel_rfl) (gi0 rfl) (oN 3 (by kernel_rfl) (oL [3, 2] rfl (by kernel_rfl) (fl_lt (lt_build (cs := [.pv (.int .i64 1), .pv (.int .i64 (IntKind.i64.wrap v1)), .pv (.int .i64 0), .emp]) rfl st25 rfl (by kernel_rfl))) (oE tbok [3, 2] 1 (by kernel_rfl) (oL [3, 2] rfl (by kernel_rfl) (fl_lt (rem_ rfl rfl rfl k1)) (oE tbok [3, 2] 2 (by kernel_rfl) (oL [3, 2] rfl (by kernel_rfl) (fl_lt (ia_box rfl u22 ty21 rfl rfl rfl 0 rfl)) (oN 1 (by kernel_rfl) trivial))))))) rfl rfl ty25 rfl rfl rfl rfl rfl rfl (putE 4 (.all rfl) rfl (by decide)) (SetAt.eq (.s (.s (.s .z)))) ?_
  refine d_endS (env2 := [(8, [.c (.box 3 0)]), (7, [.c (.box 2 0)]), (6, [.c (.pv (.bool false))]), (3, [.c (.box 0 0)]), (2, [.c (.pv (.int .i64 a2))])]) (wm [0, 0, 2, 6, 14, 30, 62, 0, 0, 385, 1023]) (by kernel_rfl) (by kernel_rfl) (by kernel_rfl) (oN 11 (by kernel_rfl) trivial) (sub_cons rfl (sub_cons rfl (sub_cons rfl (sub_cons rfl (sub_cons rfl sub_nil))))) wT ?_
  refine then_ ?_
  refine seq_ ?_
  refine region_ ?_
  refine R tbok 2 [29, 8, 7, 6, 3] [(29, [.c (.pv (.int .u64 (IntKind.u64.wrap a2)))]), (8, [.c (.box 3 0)]), (7, [.c (.box 2 0)]), (6, [.c (.pv (.bool false))]), (3, [.c (.box 0 0)])] (by kernel_rfl) ?_
  obtain ⟨v2, k2, h⟩ := bindE h
  refine L rfl rfl (rem_ rfl rfl rfl k2) rfl ?_
  refine R tbok 3 [9, 8, 7, 6, 3] [(9, [.c (.pv (.int .i64 (IntKind.i64.wrap (4 + (IntKind.i64.wrap v2)))))]), (8, [.c (.box 3 0)]), (7, [.c (.box 2 0)]), (6, [.c (.pv (.bool false))]), (3, [.c (.box 0 0)])] (by kernel_rfl) ?_
  refine ops_nil ?_
  refine then_ ?_
  refine seq_ ?_
  refine region_ ?_
  refine R tbok 3 [35, 34, 33, 9, 8, 7, 6, 3] [(35, [.agg [.pv (.int .i64 1), .pv (.int .i64 (IntKind.i64.wrap v1)), .pv (.int .i64 0), .emp]]), (34, [.agg [.pv (.int .i64 2), .pv (.int .i64 0), .pv (.int .i64 0), .emp]]), (33, [.c (.pv (.int .i64 (IntKind.i64.wrap (4 + (IntKind.i64.wrap v2)))))]), (9, [.c (.pv (.int .i64 (IntKind.i64.wrap (4 + (IntKind.i64.wrap v2)))))]), (8, [.c (.box 3 0)]), (7, [.c (.box 2 0)]), (6, [.c (.pv (.bool false))]), (3, [.c (.box 0 0)])] (by kernel_rfl) ?_
  refine C rfl rfl (fl_slice (cs := [.pv (.int .i64 2), .pv (.int .i64 0), .pv (.int .i64 0), .emp, .pv (.int .i64 1), .pv (.int .i64 (IntKind.i64.wrap v1)), .pv (.int .i64 0), .emp]) (pv := [.int .i64 2, .int .i64 0, .int .i64 0, .sl [], .int .i64 1, .int .i64 (IntKind.i64.wrap v1), .int .i64 0, .sl []]) (List.map e_check_Expr [(check_Expr.mk 2 0 0 []), (check_Expr.mk 1 (IntKind.i64.wrap v1) 0 [])]) rfl sl23 rfl rfl rfl rfl (by simp only [List.map_cons, List.map_nil, e_check_Expr_eq]; rfl) rfl rfl) rfl ?_
  refine L rfl rfl (lt_build (cs := [.pv (.int .i64 (IntKind.i64.wrap (4 + (IntKind.i64.wrap v2)))), .pv (.int .i64 0), .pv (.int .i64 0), .pv (.sl (List.map e_check_Expr [(check_Expr.mk 2 0 0 []), (check_Expr.mk 1 (IntKind.i64.wrap v1) 0 [])]))]) rfl st25 rfl (by kernel_rfl)) rfl ?_
  refine B rfl rfl (bir_alloc rfl z25 rfl rfl) rfl rfl (.s (.s (.s (.s .z)))) ?_
  refine S rfl rfl rfl ty25 (by decide) rfl rfl rfl rfl rfl (.all rfl) (.s (.s (.s (.s .z)))) ?_
  refine ops_nil ?_
  refine then_ ?_
  refine seq_ ?_
  refine region_ ?_
  refine R tbok 1 [38, 9, 8, 7, 6, 3] [(38, [.agg [.pv (.int .i64 (IntKind.i64.wrap (4 + (IntKind.i64.wrap v2)))), .pv (.int .i64 0), .pv (.int .i64 0), .pv (.sl (List.map e_check_Expr [(check_Expr.mk 2 0 0 []), (check_Expr.mk 1 (IntKind.i64.wrap v1) 0 [])]))]]), (9, [.c (.pv (.int .i64 (IntKind.i64.wrap (4 + (IntKind.i64.wrap v2)))))]), (8, [.c (.box 3 0)]), (7, [.c (.box 2 0)]), (6, [.c (.pv (.bool false))]), (3, [.c (.box 0 0)])] (by kernel_rfl) ?_
  refine L rfl rfl (lt_build (cs := [.pv (.int .i64 0), .pv (.int .i64 1), .pv (.int .i64 1), .pv (.int .i64 1), .pv (.int .i64 0), .pv (.int .i64 0), .pv (.int .i64 (IntKind.i64.wrap (4 + (IntKind.i64.wrap v2)))), .pv (.int .i64 0), .pv (.int .i64 0), .pv (.sl (List.map e_check_Expr [(check_Expr.mk 2 0 0 []), (check_Expr.mk 1 (IntKind.i64.wrap v1) 0 [])])), .pv (.int .i64 0), .pv (.int .i64 0), .pv (.int .i64 0), .pv (.int .i64 0), .emp, .pv (.int .i64 0), .pv (.int .i64 0), .pv (.int .i64 0), .emp]) rfl st31 rfl (by kernel_rfl)) rfl ?_
  refine R tbok 1 [40, 39, 9, 8, 6, 3] [(40, [.agg [.pv (.int .i64 2), .pv (.int .i64 0), .pv (.int .i64 0), .emp]]), (39, [.agg [.pv (.int .i64 0), .pv (.int .i64 1), .pv (.int .i64 1), .pv (.int .i64 1), .pv (.int .i64 0), .pv (.int .i64 0), .pv (.int .i64 (IntKind.i64.wrap (4 + (IntKind.i64.wrap v2)))), .pv (.int .i64 0), .pv (.int .i64 0), .pv (.sl (List.map e_check_Expr [(check_Expr.mk 2 0 0 []), (check_Expr.mk 1 (IntKind.i64.wrap v1) 0 [])])), .pv (.int .i64 0), .pv (.int .i64 0), .pv (.int .i64 0), .pv (.int .i64 0), .emp, .pv (.int .i64 0), .pv (.int .i64 0), .pv (.int .i64 0), .emp]]), (9, [.c (.pv (.int .i64 (IntKind.i64.wrap (4 + (IntKind.i64.wrap v2)))))]), (8, [.c (.box 3 0)]), (6, [.c (.pv (.bool false))]), (3, [.c (.box 0 0)])] (by kernel_rfl) ?_
  refine L rfl rfl (lt_build (cs := [.pv (.int .i64 2), .pv (.int .i64 0), .pv (.int .i64 1), .emp]) rfl st25 rfl (by kernel_rfl)) rfl ?_
  refine L rfl rfl (lt_build (cs := [.pv (.int .i64 3), .pv (.int .i64 2), .pv (.int .i64 0), .pv (.int .i64 0), .emp, .pv (.int .i64 2), .pv (.int .i64 0), .pv (.int .i64 1), .emp]) rfl st29 rfl (by kernel_rfl)) rfl ?_
  refine L rfl rfl (lt_build (cs := [.pv (.int .i64 0), .pv (.int .i64 1), .pv (.int .i64 5), .pv (.int .i64 0), .pv (.int .i64 0), .pv (.int .i64 0), .pv (.int .i64 0), .pv (.int .i64 0), .pv (.int .i64 0), .emp, .pv (.int .i64 3), .pv (.int .i64 2), .pv (.int .i64 0), .pv (.int .i64 0), .emp, .pv (.int .i64 2), .pv (.int .i64 0), .pv (.int .i64 1), .emp]) rfl st31 rfl (by kernel_rfl)) rfl ?_
  refine C rfl rfl (fl_slice (cs := [.pv (.int .i64 0), .pv (.int .i64 1), .pv (.int .i64 1), .pv (.int .i64 1), .pv (.int .i64 0), .pv (.int .i64 0), .pv (.int .i64 (IntKind.i64.wrap (4 + (IntKind.i64.wrap v2)))), .pv (.int .i64 0), .pv (.int .i64 0), .pv (.sl (List.map e_check_Expr [(check_Expr.mk 2 0 0 []), (check_Expr.mk 1 (IntKind.i64.wrap v1) 0 [])])), .pv (.int .i64 0), .pv (.int .i64 0), .pv (.int .i64 0), .pv (.int .i64 0), .emp, .pv (.int .i64 0), .pv (.int .i64 0), .pv (.int .i64 0), .emp, .pv (.int .i64 0), .pv (.int .i64 1), .pv (.int .i64 5), .pv (.int .i64 0), .pv (.int .i64 0), .pv (.int .i64 0), .pv (.int .i64 0), .pv (.int .i64 0), .pv (.int .i64 0), .emp, .pv (.int .i64 3), .pv (.int .i64 2), .pv (.int .i64 0), .pv (.int .i64 0), .emp, .pv (.int .i64 2), .pv (.int .i64 0), .pv (.int .i64 1), .emp]) (pv := [.int .i64 0, .int .i64 1, .int .i64 1, .int .i64 1, .int .i64 0, .int .i64 0, .int .i64 (IntKind.i64.wrap (4 + (IntKind.i64.wrap v2))), .int .i64 0, .int .i64 0, .sl (List.map e_check_Expr [(check_Expr.mk 2 0 0 []), (check_Expr.mk 1 (IntKind.i64.wrap v1) 0 [])]), .int .i64 0, .int .i64 0, .int .i64 0, .int .i64 0, .sl [], .int .i64 0, .int .i64 0, .int .i64 0, .sl [], .int .i64 0, .int .i64 1, .int .i64 5, .int .i64 0, .int .i64 0, .int .i64 0, .int .i64 0, .int .i64 0, .int .i64 0, .sl [], .int .i64 3, .int .i64 2, .int .i64 0, .int .i64 0, .sl [], .int .i64 2, .int .i64 0, .int .i64 1, .sl []]) (List.map e_flow_Edge [(flow_Edge.mk 0 1 1 1 0 0 (check_Expr.mk (IntKind.i64.wrap (4 + (IntKind.i64.wrap v2))) 0 0 [(check_Expr.mk 2 0 0 []), (check_Expr.mk 1 (IntKind.i64.wrap v1) 0 [])]) (check_Cond.mk 0 (check_Expr.mk 0 0 0 []) (check_Expr.mk 0 0 0 []))), (flow_Edge.mk 0 1 5 0 0 0 (check_Expr.mk 0 0 0 []) (check_Cond.mk 3 (check_Expr.mk 2 0 0 []) (check_Expr.mk 2 0 1 [])))]) rfl sl32 rfl rfl (by kernel_rfl) (by kernel_rfl) (by kernel_rfl) rfl rfl) rfl ?_
  refine R tbok 1 [11, 9, 8, 6, 3] [(11, [.c (.pv (.sl (List.map e_flow_Edge [(flow_Edge.mk 0 1 1 1 0 0 (check_Expr.mk (IntKind.i64.wrap (4 + (IntKind.i64.wrap v2))) 0 0 [(check_Expr.mk 2 0 0 []), (check_Expr.mk 1 (IntKind.i64.wrap v1) 0 [])]) (check_Cond.mk 0 (check_Expr.mk 0 0 0 []) (check_Expr.mk 0 0 0 []))), (flow_Edge.mk 0 1 5 0 0 0 (check_Expr.mk 0 0 0 []) (check_Cond.mk 3 (check_Expr.mk 2 0 0 []) (check_Expr.mk 2 0 1 [])))])))]), (9, [.c (.pv (.int .i64 (IntKind.i64.wrap (4 + (IntKind.i64.wrap v2)))))]), (8, [.c (.box 3 0)]), (6, [.c (.pv (.bool false))]), (3, [.c (.box 0 0)])] (by kernel_rfl) ?_
  refine ops_nil ?_
  refine then_ ?_
  refine seq_ ?_
  refine seq_ ?_
  refine region_ ?_
  refine R tbok 1 [12, 11, 9, 8, 6, 3] [(12, [.c (.pv (.int .i64 0))]), (11, [.c (.pv (.sl (List.map e_flow_Edge [(flow_Edge.mk 0 1 1 1 0 0 (check_Expr.mk (IntKind.i64.wrap (4 + (IntKind.i64.wrap v2))) 0 0 [(check_Expr.mk 2 0 0 []), (check_Expr.mk 1 (IntKind.i64.wrap v1) 0 [])]) (check_Cond.mk 0 (check_Expr.mk 0 0 0 []) (check_Expr.mk 0 0 0 []))), (flow_Edge.mk 0 1 5 0 0 0 (check_Expr.mk 0 0 0 []) (check_Cond.mk 3 (check_Expr.mk 2 0 0 []) (check_Expr.mk 2 0 1 [])))])))]), (9, [.c (.pv (.int .i64 (IntKind.i64.wrap (4 + (IntKind.i64.wrap v2)))))]), (8, [.c (.box 3 0)]), (6, [.c (.pv (.bool false))]), (3, [.c (.box 0 0)])] (by kernel_rfl) ?_
  refine ops_nil ?_
  refine then_ ?_
  refine lp_ (Qr := RW Try.prog GG Try.f3 0 r_l14_TransErrors o_l14_TransErrors) (l14_TransErrors_l1 a0 v1 v2) (fun (x1 : Int) => (⟨134, 0, [(3, [.c (.box 0 0)]), (8, [.c (.box 3 0)]), (9, [.c (.pv (.int .i64 (IntKind.i64.wrap (4 + (IntKind.i64.wrap v2)))))]), (11, [.c (.pv (.sl (List.map e_flow_Edge [(flow_Edge.mk 0 1 1 1 0 0 (check_Expr.mk (IntKind.i64.wrap (4 + (IntKind.i64.wrap v2))) 0 0 [(check_Expr.mk 2 0 0 []), (check_Expr.mk 1 (IntKind.i64.wrap v1) 0 [])]) (check_Cond.mk 0 (check_Expr.mk 0 0 0 []) (check_Expr.mk 0 0 0 []))), (flow_Edge.mk 0 1 5 0 0 0 (check_Expr.mk 0 0 0 []) (check_Cond.mk 3 (check_Expr.mk 2 0 0 []) (check_Expr.mk 2 0 1 [])))])))]), (12, [.c (.pv (.int .i64 x1))])], [some (.box true 22 [.pv (.int .i32 (a0 0)), .pv (.int .i32 (a0 1))]), none, none, some (.box true 25 [.pv (.int .i64 1), .pv (.int .i64 (IntKind.i64.wrap v1)), .pv (.int .i64 0), .emp]), none]⟩ : Sx)) (fun (j1 : Unit) => (⟨134, 0, [], []⟩ : Sx)) 0 RW.only h wT ?_ (fun x1 o h => ?_) (fun r h s' hs => ?_) (fun j1 h => ?_)
  · refine w_sub (env' := [(3, [.c (.box 0 0)]), (8, [.c (.box 3 0)]), (9, [.c (.pv (.int .i64 (IntKind.i64.wrap (4 + (IntKind.i64.wrap v2)))))]), (11, [.c (.pv (.sl (List.map e_flow_Edge [(flow_Edge.mk 0 1 1 1 0 0 (check_Expr.mk (IntKind.i64.wrap (4 + (IntKind.i64.wrap v2))) 0 0 [(check_Expr.mk 2 0 0 []), (check_Expr.mk 1 (IntKind.i64.wrap v1) 0 [])]) (check_Cond.mk 0 (check_Expr.mk 0 0 0 []) (check_Expr.mk 0 0 0 []))), (flow_Edge.mk 0 1 5 0 0 0 (check_Expr.mk 0 0 0 []) (check_Cond.mk 3 (check_Expr.mk 2 0 0 []) (check_Expr.mk 2 0 1 [])))])))]), (12, [.c (.pv (.int .i64 0))])]) (sub_cons rfl (sub_cons rfl (sub_cons rfl (sub_cons rfl (sub_cons rfl sub_nil))))) ?_
    refine w_none 1 (.s .z) ?_
    refine w_none 2 (.s (.s .z)) ?_
    refine w_none 4 (.s (.s (.s (.s .z)))) ?_
    exact wkE (by kernel_rfl) (by kernel_rfl)
  · unfold l14_TransErrors_l1 at h
    refine seq_ ?_
    refine seq_ ?_
    refine region_ ?_
    refine R tbok 2 [46, 3, 8, 9, 11, 12] [(46, [.c (.pv (.bool (decide (x1 < 2))))]), (3, [.c (.box 0 0)]), (8, [.c (.box 3 0)]), (9, [.c (.pv (.int .i64 (IntKind.i64.wrap (4 + (IntKind.i64.wrap v2)))))]), (11, [.c (.pv (.sl (List.map e_flow_Edge [(flow_Edge.mk 0 1 1 1 0 0 (check_Expr.mk (IntKind.i64.wrap (4 + (IntKind.i64.wrap v2))) 0 0 [(check_Expr.mk 2 0 0 []), (check_Expr.mk 1 (IntKind.i64.wrap v1) 0 [])]) (check_Cond.mk 0 (check_Expr.mk 0 0 0 []) (check_Expr.mk 0 0 0 []))), (flow_Edge.mk 0 1 5 0 0 0 (check_Expr.mk 0 0 0 []) (check_Cond.mk 3 (check_Expr.mk 2 0 0 []) (check_Expr.mk 2 0 1 [])))])))]), (12, [.c (.pv (.int .i64 x1))])] (by kernel_rfl) ?_
    refine ops_nil ?_
    refine then_ ?_
    refine cond_ (b := (decide (x1 < 2))) rfl (fun k3 => ?_) (fun k3 => ?_)
    · have h := iteT h k3
      refine skip_ ?_
      refine then_ ?_
      refine seq_ ?_
      refine jr_ (Qr := RW Try.prog GG Try.f3 0 r_l14_TransErrors o_l14_TransErrors) (fun (j2 : Unit) => (⟨134, 0, [(3, [.c (.box 0 0)]), (8, [.c (.box 3 0)]), (9, [.c (.pv (.int .i64 (IntKind.i64.wrap (4 + (IntKind.i64.wrap v2)))))]), (11, [.c (.pv (.sl (List.map e_flow_Edge [(flow_Edge.mk 0 1 1 1 0 0 (check_Expr.mk (IntKind.i64.wrap (4 + (IntKind.i64.wrap v2))) 0 0 [(check_Expr.mk 2 0 0 []), (check_Expr.mk 1 (IntKind.i64.wrap v1) 0 [])]) (check_Cond.mk 0 (check_Expr.mk 0 0 0 []) (check_Expr.mk 0 0 0 []))), (flow_Edge.mk 0 1 5 0 0 0 (check_Expr.mk 0 0 0 []) (check_Cond.mk 3 (check_Expr.mk 2 0 0 []) (check_Expr.mk 2 0 1 [])))])))]), (12, [.c (.pv (.int .i64 x1))])], [some (.box true 22 [.pv (.int .i32 (a0 0)), .pv (.int .i32 (a0 1))]), none, none, some (.box true 25 [.pv (.int .i64 1), .pv (.int .i64 (IntKind.i64.wrap v1)), .pv (.int .i64 0), .emp])]⟩ : Sx)) RW.only h wT (fun o h => ?_) (fun r h s' hs => ?_) (fun j2 h => ?_)
      · refine block_ ?_
        refine seq_ ?_
        refine region_ ?_
        refine R tbok 4 [52, 50, 49, 3, 8, 9, 11, 12] [(52, [.c (.pv (.int .i64 (IntKind.i64.wrap (x1 + 1))))]), (50, [.c (.pv (.int .i64 x1))]), (49, [.c (.pv (.sl (List.map e_flow_Edge [(flow_Edge.mk 0 1 1 1 0 0 (check_Expr.mk (IntKind.i64.wrap (4 + (IntKind.i64.wrap v2))) 0 0 [(check_Expr.mk 2 0 0 []), (check_Expr.mk 1 (IntKind.i64.wrap v1) 0 [])]) (check_Cond.mk 0 (check_Expr.mk 0 0 0 []) (check_Expr.mk 0 0 0 []))), (flow_Edge.mk 0 1 5 0 0 0 (check_Expr.mk 0 0 0 []) (check_Cond.mk 3 (check_Expr.mk 2 0 0 []) (check_Expr.mk 2 0 1 [])))])))]), (3, [.c (.box 0 0)]), (8, [.c (.box 3 0)]), (9, [.c (.pv (.int .i64 (IntKind.i64.wrap (4 + (IntKind.i64.wrap v2)))))]), (11, [.c (.pv (.sl (List.map e_flow_Edge [(flow_Edge.mk 0 1 1 1 0 0 (check_Expr.mk (IntKind.i64.wrap (4 + (IntKind.i64.wrap v2))) 0 0 [(check_Expr.mk 2 0 0 []), (check_Expr.mk 1 (IntKind.i64.wrap v1) 0 [])]) (check_Cond.mk 0 (check_Expr.mk 0 0 0 []) (check_Expr.mk 0 0 0 []))), (flow_Edge.mk 0 1 5 0 0 0 (check_Expr.mk 0 0 0 []) (check_Cond.mk 3 (check_Expr.mk 2 0 0 []) (check_Expr.mk 2 0 1 [])))])))]), (12, [.c (.pv (.int .i64 x1))])] (by kernel_rfl) ?_
        obtain ⟨v3, k4, h⟩ := bindE h
        refine L rfl rfl (slice_sl (e := e_flow_Edge) rfl u32 ty31 rfl (bd1 rfl) (bd1 rfl) k4 (fun _ => rfl)) rfl ?_
        refine L rfl rfl (lt_build (cs := [.pv (.int .i64 2), .pv (.sl (List.map e_flow_Edge v3)), .emp]) rfl st35 rfl (by kernel_rfl)) rfl ?_
        refine C rfl rfl (fl_slice (List.map e_flow_Graph [(flow_Graph.mk 2 v3 [])]) rfl sl36 rfl rfl rfl rfl rfl rfl rfl) rfl ?_
        refine C rfl rfl (fl_slice (List.map e_i64 [2]) rfl sl33 rfl rfl rfl rfl rfl rfl rfl) rfl ?_
        refine L rfl rfl (lt_build (cs := [.emp, .pv (.sl (List.map e_flow_Graph [(flow_Graph.mk 2 v3 [])])), .pv (.sl (List.map e_i64 [2]))]) rfl st39 rfl (by kernel_rfl)) rfl ?_
        refine B rfl rfl (bir_alloc rfl z39 rfl rfl) rfl rfl (.s (.s (.s (.s (.s .z))))) ?_
        refine S rfl rfl rfl ty39 (by decide) rfl rfl rfl rfl rfl (.all rfl) (.s (.s (.s (.s (.s .z))))) ?_
        refine ops_nil ?_
        refine then_ ?_
        refine seq_ ?_
        refine region_ ?_
        refine R tbok 1 [58, 13, 3, 8, 9, 11, 12] [(58, [.agg [.emp, .pv (.sl (List.map e_flow_Graph [(flow_Graph.mk 2 v3 [])])), .pv (.sl (List.map e_i64 [2]))]]), (13, [.c (.box 5 0)]), (3, [.c (.box 0 0)]), (8, [.c (.box 3 0)]), (9, [.c (.pv (.int .i64 (IntKind.i64.wrap (4 + (IntKind.i64.wrap v2)))))]), (11, [.c (.pv (.sl (List.map e_flow_Edge [(flow_Edge.mk 0 1 1 1 0 0 (check_Expr.mk (IntKind.i64.wrap (4 + (IntKind.i64.wrap v2))) 0 0 [(check_Expr.mk 2 0 0 []), (check_Expr.mk 1 (IntKind.i64.wrap v1) 0 [])]) (check_Cond.mk 0 (check_Expr.mk 0 0 0 []) (check_Expr.mk 0 0 0 []))), (flow_Edge.mk 0 1 5 0 0 0 (check_Expr.mk 0 0 0 []) (check_Cond.mk 3 (check_Expr.mk 2 0 0 []) (check_Expr.mk 2 0 1 [])))])))]), (12, [.c (.pv (.int .i64 x1))])] (by kernel_rfl) ?_
        obtain ⟨v4, k5, h⟩ := bindE h
        refine C rfl rfl (fl_call rfl Try.call6 rfl (by kernel_rfl) (by kernel_rfl) (trans_Start_meets k5)) rfl ?_
        refine B rfl rfl (bir_alloc rfl z49 rfl rfl) rfl rfl (.s (.s (.s (.s (.s (.s .z)))))) ?_
        refine S rfl rfl rfl ty49 (by decide) rfl rfl rfl rfl rfl (.all rfl) (.s (.s (.s (.s (.s (.s .z)))))) ?_
        refine ops_nil ?_
        refine then_ ?_
        refine seq_ ?_
        refine region_ ?_
        refine L rfl rfl (ia_box rfl u22 ty21 rfl rfl rfl 0 rfl) rfl ?_
        refine R tbok 2 [62, 14, 13, 3, 8, 9, 11, 12] [(62, [.c (.pv (.int .i64 (IntKind.i64.wrap (a0 0))))]), (14, [.c (.box 6 0)]), (13, [.c (.box 5 0)]), (3, [.c (.box 0 0)]), (8, [.c (.box 3 0)]), (9, [.c (.pv (.int .i64 (IntKind.i64.wrap (4 + (IntKind.i64.wrap v2)))))]), (11, [.c (.pv (.sl (List.map e_flow_Edge [(flow_Edge.mk 0 1 1 1 0 0 (check_Expr.mk (IntKind.i64.wrap (4 + (IntKind.i64.wrap v2))) 0 0 [(check_Expr.mk 2 0 0 []), (check_Expr.mk 1 (IntKind.i64.wrap v1) 0 [])]) (check_Cond.mk 0 (check_Expr.mk 0 0 0 []) (check_Expr.mk 0 0 0 []))), (flow_Edge.mk 0 1 5 0 0 0 (check_Expr.mk 0 0 0 []) (check_Cond.mk 3 (check_Expr.mk 2 0 0 []) (check_Expr.mk 2 0 1 [])))])))]), (12, [.c (.pv (.int .i64 x1))])] (by kernel_rfl) ?_
        refine L rfl rfl (ia_box rfl u22 ty21 rfl rfl rfl 1 rfl) rfl ?_
        refine R tbok 2 [65, 62, 14, 13, 3, 8, 9, 11, 12] [(65, [.c (.pv (.int .i64 (IntKind.i64.wrap (a0 1))))]), (62, [.c (.pv (.int .i64 (IntKind.i64.wrap (a0 0))))]), (14, [.c (.box 6 0)]), (13, [.c (.box 5 0)]), (3, [.c (.box 0 0)]), (8, [.c (.box 3 0)]), (9, [.c (.pv (.int .i64 (IntKind.i64.wrap (4 + (IntKind.i64.wrap v2)))))]), (11, [.c (.pv (.sl (List.map e_flow_Edge [(flow_Edge.mk 0 1 1 1 0 0 (check_Expr.mk (IntKind.i64.wrap (4 + (IntKind.i64.wrap v2))) 0 0 [(check_Expr.mk 2 0 0 []), (check_Expr.mk 1 (IntKind.i64.wrap v1) 0 [])]) (check_Cond.mk 0 (check_Expr.mk 0 0 0 []) (check_Expr.mk 0 0 0 []))), (flow_Edge.mk 0 1 5 0 0 0 (check_Expr.mk 0 0 0 []) (check_Cond.mk 3 (check_Expr.mk 2 0 0 []) (check_Expr.mk 2 0 1 [])))])))]), (12, [.c (.pv (.int .i64 x1))])] (by kernel_rfl) ?_
        refine C rfl rfl (fl_slice (List.map e_i64 [(IntKind.i64.wrap (a0 0)), (IntKind.i64.wrap (a0 1))]) rfl sl33 rfl rfl rfl rfl rfl rfl rfl) rfl ?_
        refine R tbok 1 [15, 14, 13, 3, 8, 9, 11, 12] [(15, [.c (.pv (.sl (List.map e_i64 [(IntKind.i64.wrap (a0 0)), (IntKind.i64.wrap (a0 1))])))]), (14, [.c (.box 6 0)]), (13, [.c (.box 5 0)]), (3, [.c (.box 0 0)]), (8, [.c (.box 3 0)]), (9, [.c (.pv (.int .i64 (IntKind.i64.wrap (4 + (IntKind.i64.wrap v2)))))]), (11, [.c (.pv (.sl (List.map e_flow_Edge [(flow_Edge.mk 0 1 1 1 0 0 (check_Expr.mk (IntKind.i64.wrap (4 + (IntKind.i64.wrap v2))) 0 0 [(check_Expr.mk 2 0 0 []), (check_Expr.mk 1 (IntKind.i64.wrap v1) 0 [])]) (check_Cond.mk 0 (check_Expr.mk 0 0 0 []) (check_Expr.mk 0 0 0 []))), (flow_Edge.mk 0 1 5 0 0 0 (check_Expr.mk 0 0 0 []) (check_Cond.mk 3 (check_Expr.mk 2 0 0 []) (check_Expr.mk 2 0 1 [])))])))]), (12, [.c (.pv (.int .i64 x1))])] (by kernel_rfl) ?_
        refine ops_nil ?_
        refine then_ ?_
        refine seq_ ?_
        refine region_ ?_
        refine R tbok 1 [67, 15, 14, 13, 3, 8, 9, 11, 12] [(67, [.c (.pv (.sl (List.map e_i64 [(IntKind.i64.wrap (a0 0)), (IntKind.i64.wrap (a0 1))])))]), (15, [.c (.pv (.sl (List.map e_i64 [(IntKind.i64.wrap (a0 0)), (IntKind.i64.wrap (a0 1))])))]), (14, [.c (.box 6 0)]), (13, [.c (.box 5 0)]), (3, [.c (.box 0 0)]), (8, [.c (.box 3 0)]), (9, [.c (.pv (.int .i64 (IntKind.i64.wrap (4 + (IntKind.i64.wrap v2)))))]), (11, [.c (.pv (.sl (List.map e_flow_Edge [(flow_Edge.mk 0 1 1 1 0 0 (check_Expr.mk (IntKind.i64.wrap (4 + (IntKind.i64.wrap v2))) 0 0 [(check_Expr.mk 2 0 0 []), (check_Expr.mk 1 (IntKind.i64.wrap v1) 0 [])]) (check_Cond.mk 0 (check_Expr.mk 0 0 0 []) (check_Expr.mk 0 0 0 []))), (flow_Edge.mk 0 1 5 0 0 0 (check_Expr.mk 0 0 0 []) (check_Cond.mk 3 (check_Expr.mk 2 0 0 []) (check_Expr.mk 2 0 1 [])))])))]), (12, [.c (.pv (.int .i64 x1))])] (by kernel_rfl) ?_
        obtain ⟨v5, k6, h⟩ := bindE h
        refine C rfl rfl (fl_call rfl Try.call7 rfl (by kernel_rfl) (by kernel_rfl) (l14_row_meets k6)) rfl ?_
        refine R tbok 1 [69, 68, 15, 14, 13, 3, 8, 9, 11, 12] [(69, [.c (.box 6 0)]), (68, [.agg (bs (e_num_Num v5))]), (15, [.c (.pv (.sl (List.map e_i64 [(IntKind.i64.wrap (a0 0)), (IntKind.i64.wrap (a0 1))])))]), (14, [.c (.box 6 0)]), (13, [.c (.box 5 0)]), (3, [.c (.box 0 0)]), (8, [.c (.box 3 0)]), (9, [.c (.pv (.int .i64 (IntKind.i64.wrap (4 + (IntKind.i64.wrap v2)))))]), (11, [.c (.pv (.sl (List.map e_flow_Edge [(flow_Edge.mk 0 1 1 1 0 0 (check_Expr.mk (IntKind.i64.wrap (4 + (IntKind.i64.wrap v2))) 0 0 [(check_Expr.mk 2 0 0 []), (check_Expr.mk 1 (IntKind.i64.wrap v1) 0 [])]) (check_Cond.mk 0 (check_Expr.mk 0 0 0 []) (check_Expr.mk 0 0 0 []))), (flow_Edge.mk 0 1 5 0 0 0 (check_Expr.mk 0 0 0 []) (check_Cond.mk 3 (check_Expr.mk 2 0 0 []) (check_Expr.mk 2 0 1 [])))])))]), (12, [.c (.pv (.int .i64 x1))])] (by kernel_rfl) ?_
        obtain ⟨v6, k7, h⟩ := bindE h
        refine SD (bs (e_trans_State v6)) rfl rfl rfl ty46 (by decide) rfl rfl rfl rfl rfl (Nat.le_of_ble_eq_true rfl) (by rw [← retE k7]; kernel_rfl) (SetAt.eq (.s (.s (.s (.s (.s (.s .z))))))) ?_
        refine ops_nil ?_
        refine then_ ?_
        refine seq_ ?_
        refine region_ ?_
        refine R tbok 1 [71, 15, 14, 3, 8, 9, 11, 12] [(71, [.agg [.emp, .pv (.sl (List.map e_flow_Graph [(flow_Graph.mk 2 v3 [])])), .pv (.sl (List.map e_i64 [2]))]]), (15, [.c (.pv (.sl (List.map e_i64 [(IntKind.i64.wrap (a0 0)), (IntKind.i64.wrap (a0 1))])))]), (14, [.c (.box 6 0)]), (3, [.c (.box 0 0)]), (8, [.c (.box 3 0)]), (9, [.c (.pv (.int .i64 (IntKind.i64.wrap (4 + (IntKind.i64.wrap v2)))))]), (11, [.c (.pv (.sl (List.map e_flow_Edge [(flow_Edge.mk 0 1 1 1 0 0 (check_Expr.mk (IntKind.i64.wrap (4 + (IntKind.i64.wrap v2))) 0 0 [(check_Expr.mk 2 0 0 []), (check_Expr.mk 1 (IntKind.i64.wrap v1) 0 [])]) (check_Cond.mk 0 (check_Expr.mk 0 0 0 []) (check_Expr.mk 0 0 0 []))), (flow_Edge.mk 0 1 5 0 0 0 (check_Expr.mk 0 0 0 []) (check_Cond.mk 3 (check_Expr.mk 2 0 0 []) (check_Expr.mk 2 0 1 [])))])))]), (12, [.c (.pv (.int .i64 x1))])] (by kernel_rfl) ?_
        refine L rfl rfl (lt_build (cs := [.emp, .pv (.sl (List.map e_flow_Graph [(flow_Graph.mk 2 v3 [])])), .pv (.sl (List.map e_i64 [2])), .emp, .emp]) rfl st61 rfl (by kernel_rfl)) rfl ?_
        refine R tbok 1 [73, 72, 15, 3, 8, 9, 11, 12] [(73, [.agg (bs (e_trans_State v6))]), (72, [.agg [.emp, .pv (.sl (List.map e_flow_Graph [(flow_Graph.mk 2 v3 [])])), .pv (.sl (List.map e_i64 [2])), .emp, .emp]]), (15, [.c (.pv (.sl (List.map e_i64 [(IntKind.i64.wrap (a0 0)), (IntKind.i64.wrap (a0 1))])))]), (3, [.c (.box 0 0)]), (8, [.c (.box 3 0)]), (9, [.c (.pv (.int .i64 (IntKind.i64.wrap (4 + (IntKind.i64.wrap v2)))))]), (11, [.c (.pv (.sl (List.map e_flow_Edge [(flow_Edge.mk 0 1 1 1 0 0 (check_Expr.mk (IntKind.i64.wrap (4 + (IntKind.i64.wrap v2))) 0 0 [(check_Expr.mk 2 0 0 []), (check_Expr.mk 1 (IntKind.i64.wrap v1) 0 [])]) (check_Cond.mk 0 (check_Expr.mk 0 0 0 []) (check_Expr.mk 0 0 0 []))), (flow_Edge.mk 0 1 5 0 0 0 (check_Expr.mk 0 0 0 []) (check_Cond.mk 3 (check_Expr.mk 2 0 0 []) (check_Expr.mk 2 0 1 [])))])))]), (12, [.c (.pv (.int .i64 x1))])] (by kernel_rfl) ?_
        obtain ⟨v7, k8, h⟩ := bindE h
        refine C rfl rfl (fl_call rfl Try.call8 rfl (by kernel_rfl) (by kernel_rfl) (trans_Step_meets k8)) rfl ?_
        refine R tbok 4 [77, 76, 75, 15, 3, 8, 9, 11, 12] [(77, [.c (.pv (.sl (List.map e_i64 v7.2.2)))]), (76, [.agg [.pv (.int .i64 v7.2.1.Chan), .pv (.int .i64 v7.2.1.Tag), .pv (.int .i64 v7.2.1.Vals.Lo), .pv (.int .i64 v7.2.1.Vals.Hi)]]), (75, [.agg (bs (e_trans_State v7.1))]), (15, [.c (.pv (.sl (List.map e_i64 [(IntKind.i64.wrap (a0 0)), (IntKind.i64.wrap (a0 1))])))]), (3, [.c (.box 0 0)]), (8, [.c (.box 3 0)]), (9, [.c (.pv (.int .i64 (IntKind.i64.wrap (4 + (IntKind.i64.wrap v2)))))]), (11, [.c (.pv (.sl (List.map e_flow_Edge [(flow_Edge.mk 0 1 1 1 0 0 (check_Expr.mk (IntKind.i64.wrap (4 + (IntKind.i64.wrap v2))) 0 0 [(check_Expr.mk 2 0 0 []), (check_Expr.mk 1 (IntKind.i64.wrap v1) 0 [])]) (check_Cond.mk 0 (check_Expr.mk 0 0 0 []) (check_Expr.mk 0 0 0 []))), (flow_Edge.mk 0 1 5 0 0 0 (check_Expr.mk 0 0 0 []) (check_Cond.mk 3 (check_Expr.mk 2 0 0 []) (check_Expr.mk 2 0 1 [])))])))]), (12, [.c (.pv (.int .i64 x1))])] (by kernel_rfl) ?_
        refine B rfl rfl (bir_alloc rfl z49 rfl rfl) rfl rfl (.s (.s (.s (.s (.s (.s (.s .z))))))) ?_
        refine B rfl rfl (bir_alloc rfl z55 rfl rfl) rfl rfl (.s (.s (.s (.s (.s (.s (.s (.s .z)))))))) ?_
        refine S rfl rfl rfl ty49 (by decide) rfl rfl rfl rfl rfl (.all rfl) (.s (.s (.s (.s (.s (.s (.s .z))))))) ?_
        refine S rfl rfl rfl ty55 (by decide) rfl rfl rfl rfl rfl (.all rfl) (.s (.s (.s (.s (.s (.s (.s (.s .z)))))))) ?_
        refine R tbok 1 [18, 16, 15, 3, 8, 9, 11, 12] [(18, [.c (.pv (.sl (List.map e_i64 v7.2.2)))]), (16, [.c (.box 7 0)]), (15, [.c (.pv (.sl (List.map e_i64 [(IntKind.i64.wrap (a0 0)), (IntKind.i64.wrap (a0 1))])))]), (3, [.c (.box 0 0)]), (8, [.c (.box 3 0)]), (9, [.c (.pv (.int .i64 (IntKind.i64.wrap (4 + (IntKind.i64.wrap v2)))))]), (11, [.c (.pv (.sl (List.map e_flow_Edge [(flow_Edge.mk 0 1 1 1 0 0 (check_Expr.mk (IntKind.i64.wrap (4 + (IntKind.i64.wrap v2))) 0 0 [(check_Expr.mk 2 0 0 []), (check_Expr.mk 1 (IntKind.i64.wrap v1) 0 [])]) (check_Cond.mk 0 (check_Expr.mk 0 0 0 []) (check_Expr.mk 0 0 0 []))), (flow_Edge.mk 0 1 5 0 0 0 (check_Expr.mk 0 0 0 []) (check_Cond.mk 3 (check_Expr.mk 2 0 0 []) (check_Expr.mk 2 0 1 [])))])))]), (12, [.c (.pv (.int .i64 x1))])] (by kernel_rfl) ?_
        refine ops_nil ?_
        refine then_ ?_
        refine seq_ ?_
        refine region_ ?_
        refine R tbok 1 [79, 18, 16, 15, 3, 8, 9, 11, 12] [(79, [.c (.pv (.int .i64 (IntKind.i64.wrap (4 + (IntKind.i64.wrap v2)))))]), (18, [.c (.pv (.sl (List.map e_i64 v7.2.2)))]), (16, [.c (.box 7 0)]), (15, [.c (.pv (.sl (List.map e_i64 [(IntKind.i64.wrap (a0 0)), (IntKind.i64.wrap (a0 1))])))]), (3, [.c (.box 0 0)]), (8, [.c (.box 3 0)]), (9, [.c (.pv (.int .i64 (IntKind.i64.wrap (4 + (IntKind.i64.wrap v2)))))]), (11, [.c (.pv (.sl (List.map e_flow_Edge [(flow_Edge.mk 0 1 1 1 0 0 (check_Expr.mk (IntKind.i64.wrap (4 + (IntKind.i64.wrap v2))) 0 0 [(check_Expr.mk 2 0 0 []), (check_Expr.mk 1 (IntKind.i64.wrap v1) 0 [])]) (check_Cond.mk 0 (check_Expr.mk 0 0 0 []) (check_Expr.mk 0 0 0 []))), (flow_Edge.mk 0 1 5 0 0 0 (check_Expr.mk 0 0 0 []) (check_Cond.mk 3 (check_Expr.mk 2 0 0 []) (check_Expr.mk 2 0 1 [])))])))]), (12, [.c (.pv (.int .i64 x1))])] (by kernel_rfl) ?_
        refine L rfl rfl (lt_build (cs := [.pv (.int .i64 2), .pv (.int .i64 0), .pv (.int .i64 0), .emp]) rfl st66 rfl (by kernel_rfl)) rfl ?_
        refine R tbok 2 [82, 80, 79, 18, 16, 15, 3, 8, 9, 11, 12] [(82, [.c (.pv (.int .i64 (IntKind.i64.wrap v1)))]), (80, [.agg [.pv (.int .i64 2), .pv (.int .i64 0), .pv (.int .i64 0), .emp]]), (79, [.c (.pv (.int .i64 (IntKind.i64.wrap (4 + (IntKind.i64.wrap v2)))))]), (18, [.c (.pv (.sl (List.map e_i64 v7.2.2)))]), (16, [.c (.box 7 0)]), (15, [.c (.pv (.sl (List.map e_i64 [(IntKind.i64.wrap (a0 0)), (IntKind.i64.wrap (a0 1))])))]), (3, [.c (.box 0 0)]), (8, [.c (.box 3 0)]), (9, [.c (.pv (.int .i64 (IntKind.i64.wrap (4 + (IntKind.i64.wrap v2)))))]), (11, [.c (.pv (.sl (List.map e_flow_Edge [(flow_Edge.mk 0 1 1 1 0 0 (check_Expr.mk (IntKind.i64.wrap (4 + (IntKind.i64.wrap v2))) 0 0 [(check_Expr.mk 2 0 0 []), (check_Expr.mk 1 (IntKind.i64.wrap v1) 0 [])]) (check_Cond.mk 0 (check_Expr.mk 0 0 0 []) (check_Expr.mk 0 0 0 []))), (flow_Edge.mk 0 1 5 0 0 0 (check_Expr.mk 0 0 0 []) (check_Cond.mk 3 (check_Expr.mk 2 0 0 []) (check_Expr.mk 2 0 1 [])))])))]), (12, [.c (.pv (.int .i64 x1))])] (by kernel_rfl) ?_
        refine L rfl rfl (lt_build (cs := [.pv (.int .i64 1), .pv (.int .i64 (IntKind.i64.wrap v1)), .pv (.int .i64 0), .emp]) rfl st66 rfl (by kernel_rfl)) rfl ?_
        refine C rfl rfl (fl_slice (cs := [.pv (.int .i64 2), .pv (.int .i64 0), .pv (.int .i64 0), .emp, .pv (.int .i64 1), .pv (.int .i64 (IntKind.i64.wrap v1)), .pv (.int .i64 0), .emp]) (pv := [.int .i64 2, .int .i64 0, .int .i64 0, .sl [], .int .i64 1, .int .i64 (IntKind.i64.wrap v1), .int .i64 0, .sl []]) (List.map e_r04_Expr [(r04_Expr.mk 2 0 0 []), (r04_Expr.mk 1 (IntKind.i64.wrap v1) 0 [])]) rfl sl64 rfl rfl rfl rfl (by simp only [List.map_cons, List.map_nil, e_r04_Expr_eq]; rfl) rfl rfl) rfl ?_
        refine L rfl rfl (lt_build (cs := [.pv (.int .i64 (IntKind.i64.wrap (4 + (IntKind.i64.wrap v2)))), .pv (.int .i64 0), .pv (.int .i64 0), .pv (.sl (List.map e_r04_Expr [(r04_Expr.mk 2 0 0 []), (r04_Expr.mk 1 (IntKind.i64.wrap v1) 0 [])]))]) rfl st66 rfl (by kernel_rfl)) rfl ?_
        refine R tbok 1 [86, 85, 18, 16, 15, 3, 8, 9, 11, 12] [(86, [.c (.pv (.sl (List.map e_i64 [(IntKind.i64.wrap (a0 0)), (IntKind.i64.wrap (a0 1))])))]), (85, [.agg [.pv (.int .i64 (IntKind.i64.wrap (4 + (IntKind.i64.wrap v2)))), .pv (.int .i64 0), .pv (.int .i64 0), .pv (.sl (List.map e_r04_Expr [(r04_Expr.mk 2 0 0 []), (r04_Expr.mk 1 (IntKind.i64.wrap v1) 0 [])]))]]), (18, [.c (.pv (.sl (List.map e_i64 v7.2.2)))]), (16, [.c (.box 7 0)]), (15, [.c (.pv (.sl (List.map e_i64 [(IntKind.i64.wrap (a0 0)), (IntKind.i64.wrap (a0 1))])))]), (3, [.c (.box 0 0)]), (8, [.c (.box 3 0)]), (9, [.c (.pv (.int .i64 (IntKind.i64.wrap (4 + (IntKind.i64.wrap v2)))))]), (11, [.c (.pv (.sl (List.map e_flow_Edge [(flow_Edge.mk 0 1 1 1 0 0 (check_Expr.mk (IntKind.i64.wrap (4 + (IntKind.i64.wrap v2))) 0 0 [(check_Expr.mk 2 0 0 []), (check_Expr.mk 1 (IntKind.i64.wrap v1) 0 [])]) (check_Cond.mk 0 (check_Expr.mk 0 0 0 []) (check_Expr.mk 0 0 0 []))), (flow_Edge.mk 0 1 5 0 0 0 (check_Expr.mk 0 0 0 []) (check_Cond.mk 3 (check_Expr.mk 2 0 0 []) (check_Expr.mk 2 0 1 [])))])))]), (12, [.c (.pv (.int .i64 x1))])] (by kernel_rfl) ?_
        obtain ⟨v8, k9, h⟩ := bindE h
        refine C rfl rfl (fl_call rfl Try.call9 rfl (by kernel_rfl) (by kernel_rfl) (r07_Eval_meets k9)) rfl ?_
        refine R tbok 5 [20, 19, 18, 16, 15, 3, 8, 9, 11, 12] [(20, [.c (.pv (.int .i64 v8.2))]), (19, [.c (.pv (.int .i64 v8.1))]), (18, [.c (.pv (.sl (List.map e_i64 v7.2.2)))]), (16, [.c (.box 7 0)]), (15, [.c (.pv (.sl (List.map e_i64 [(IntKind.i64.wrap (a0 0)), (IntKind.i64.wrap (a0 1))])))]), (3, [.c (.box 0 0)]), (8, [.c (.box 3 0)]), (9, [.c (.pv (.int .i64 (IntKind.i64.wrap (4 + (IntKind.i64.wrap v2)))))]), (11, [.c (.pv (.sl (List.map e_flow_Edge [(flow_Edge.mk 0 1 1 1 0 0 (check_Expr.mk (IntKind.i64.wrap (4 + (IntKind.i64.wrap v2))) 0 0 [(check_Expr.mk 2 0 0 []), (check_Expr.mk 1 (IntKind.i64.wrap v1) 0 [])]) (check_Cond.mk 0 (check_Expr.mk 0 0 0 []) (check_Expr.mk 0 0 0 []))), (flow_Edge.mk 0 1 5 0 0 0 (check_Expr.mk 0 0 0 []) (check_Cond.mk 3 (check_Expr.mk 2 0 0 []) (check_Expr.mk 2 0 1 [])))])))]), (12, [.c (.pv (.int .i64 x1))])] (by kernel_rfl) ?_
        refine ops_nil ?_
        refine then_ ?_
        refine seq_ ?_
        refine jn_ (fun (j3 : (Int × Int)) => (⟨134, 0, [(3, [.c (.box 0 0)]), (8, [.c (.box 3 0)]), (9, [.c (.pv (.int .i64 (IntKind.i64.wrap (4 + (IntKind.i64.wrap v2)))))]), (11, [.c (.pv (.sl (List.map e_flow_Edge [(flow_Edge.mk 0 1 1 1 0 0 (check_Expr.mk (IntKind.i64.wrap (4 + (IntKind.i64.wrap v2))) 0 0 [(check_Expr.mk 2 0 0 []), (check_Expr.mk 1 (IntKind.i64.wrap v1) 0 [])]) (check_Cond.mk 0 (check_Expr.mk 0 0 0 []) (check_Expr.mk 0 0 0 []))), (flow_Edge.mk 0 1 5 0 0 0 (check_Expr.mk 0 0 0 []) (check_Cond.mk 3 (check_Expr.mk 2 0 0 []) (check_Expr.mk 2 0 1 [])))])))]), (12, [.c (.pv (.int .i64 x1))]), (15, [.c (.pv (.sl (List.map e_i64 [(IntKind.i64.wrap (a0 0)), (IntKind.i64.wrap (a0 1))])))]), (16, [.c (.box 7 0)]), (18, [.c (.pv (.sl (List.map e_i64 v7.2.2)))]), (19, [.c (.pv (.int .i64 j3.1))]), (20, [.c (.pv (.int .i64 j3.2))])], [some (.box true 22 [.pv (.int .i32 (a0 0)), .pv (.int .i32 (a0 1))]), none, none, some (.box true 25 [.pv (.int .i64 1), .pv (.int .i64 (IntKind.i64.wrap v1)), .pv (.int .i64 0), .emp]), none, none, none, some (.box true 49 (bs (e_trans_State v7.1)))]⟩ : Sx)) h wT (fun o h => ?_) (fun j3 h => ?_)
        · refine seq_ ?_
          refine region_ ?_
          refine R tbok 2 [91, 20, 19, 18, 16, 15, 3, 8, 9, 11, 12] [(91, [.c (.pv (.bool (x1 == 1)))]), (20, [.c (.pv (.int .i64 v8.2))]), (19, [.c (.pv (.int .i64 v8.1))]), (18, [.c (.pv (.sl (List.map e_i64 v7.2.2)))]), (16, [.c (.box 7 0)]), (15, [.c (.pv (.sl (List.map e_i64 [(IntKind.i64.wrap (a0 0)), (IntKind.i64.wrap (a0 1))])))]), (3, [.c (.box 0 0)]), (8, [.c (.box 3 0)]), (9, [.c (.pv (.int .i64 (IntKind.i64.wrap (4 + (IntKind.i64.wrap v2)))))]), (11, [.c (.pv (.sl (List.map e_flow_Edge [(flow_Edge.mk 0 1 1 1 0 0 (check_Expr.mk (IntKind.i64.wrap (4 + (IntKind.i64.wrap v2))) 0 0 [(check_Expr.mk 2 0 0 []), (check_Expr.mk 1 (IntKind.i64.wrap v1) 0 [])]) (check_Cond.mk 0 (check_Expr.mk 0 0 0 []) (check_Expr.mk 0 0 0 []))), (flow_Edge.mk 0 1 5 0 0 0 (check_Expr.mk 0 0 0 []) (check_Cond.mk 3 (check_Expr.mk 2 0 0 []) (check_Expr.mk 2 0 1 [])))])))]), (12, [.c (.pv (.int .i64 x1))])] (by kernel_rfl) ?_
          refine ops_nil ?_
          refine then_ ?_
          refine cond_ (b := (x1 == 1)) rfl (fun k10 => ?_) (fun k10 => ?_)
          · have h := iteT h k10
            refine seq_ ?_
            refine region_ ?_
            refine R tbok 1 [92, 20, 19, 18, 16, 15, 3, 8, 9, 11, 12] [(92, [.c (.pv (.sl (List.map e_i64 [(IntKind.i64.wrap (a0 0)), (IntKind.i64.wrap (a0 1))])))]), (20, [.c (.pv (.int .i64 v8.2))]), (19, [.c (.pv (.int .i64 v8.1))]), (18, [.c (.pv (.sl (List.map e_i64 v7.2.2)))]), (16, [.c (.box 7 0)]), (15, [.c (.pv (.sl (List.map e_i64 [(IntKind.i64.wrap (a0 0)), (IntKind.i64.wrap (a0 1))])))]), (3, [.c (.box 0 0)]), (8, [.c (.box 3 0)]), (9, [.c (.pv (.int .i64 (IntKind.i64.wrap (4 + (IntKind.i64.wrap v2)))))]), (11, [.c (.pv (.sl (List.map e_flow_Edge [(flow_Edge.mk 0 1 1 1 0 0 (check_Expr.mk (IntKind.i64.wrap (4 + (IntKind.i64.wrap v2))) 0 0 [(check_Expr.mk 2 0 0 []), (check_Expr.mk 1 (IntKind.i64.wrap v1) 0 [])]) (check_Cond.mk 0 (check_Expr.mk 0 0 0 []) (check_Expr.mk 0 0 0 []))), (flow_Edge.mk 0 1 5 0 0 0 (check_Expr.mk 0 0 0 []) (check_Cond.mk 3 (check_Expr.mk 2 0 0 []) (check_Expr.mk 2 0 1 [])))])))]), (12, [.c (.pv (.int .i64 x1))])] (by kernel_rfl) ?_
            obtain ⟨v9, k11, h⟩ := bindE h
            refine L rfl rfl (ia_sl (e := e_i64) (y := v9) rfl u33 ty3 rfl rfl k11 rfl) rfl ?_
            refine R tbok 3 [20, 19, 18, 16, 15, 3, 8, 9, 11, 12] [(20, [.c (.pv (.int .i64 0))]), (19, [.c (.pv (.int .i64 v9))]), (18, [.c (.pv (.sl (List.map e_i64 v7.2.2)))]), (16, [.c (.box 7 0)]), (15, [.c (.pv (.sl (List.map e_i64 [(IntKind.i64.wrap (a0 0)), (IntKind.i64.wrap (a0 1))])))]), (3, [.c (.box 0 0)]), (8, [.c (.box 3 0)]), (9, [.c (.pv (.int .i64 (IntKind.i64.wrap (4 + (IntKind.i64.wrap v2)))))]), (11, [.c (.pv (.sl (List.map e_flow_Edge [(flow_Edge.mk 0 1 1 1 0 0 (check_Expr.mk (IntKind.i64.wrap (4 + (IntKind.i64.wrap v2))) 0 0 [(check_Expr.mk 2 0 0 []), (check_Expr.mk 1 (IntKind.i64.wrap v1) 0 [])]) (check_Cond.mk 0 (check_Expr.mk 0 0 0 []) (check_Expr.mk 0 0 0 []))), (flow_Edge.mk 0 1 5 0 0 0 (check_Expr.mk 0 0 0 []) (check_Cond.mk 3 (check_Expr.mk 2 0 0 []) (check_Expr.mk 2 0 1 [])))])))]), (12, [.c (.pv (.int .i64 x1))])] (by kernel_rfl) ?_
            refine ops_nil ?_
            refine then_ ?_
            refine seq_ ?_
            refine drawn_ mixed ?_
            refine dl (t := 95) 0 [.c (.pv (.sl (List.map e_i64 [(IntKind.i64.wrap (a0 0)), (IntKind.i64.wrap (a0 1))])))] rfl ?_
            obtain ⟨v10, k12, h⟩ := bindE h
            refine dl (t := 96) 1 [.c (.ep [.int .i64 v10])] rfl ?_
            refine dl (t := 97) 2 [.c (.pv (.int .i64 v10))] rfl ?_
            refine dl (t := 98) 3 [.c (.pv (.sl (List.map e_i64 [(IntKind.i64.wrap (a0 0)), (IntKind.i64.wrap (a0 1))])))] rfl ?_
            obtain ⟨v11, k13, h⟩ := bindE h
            refine dl (t := 99) 4 [.c (.ep [.int .i64 v11])] rfl ?_
            refine dl (t := 100) 5 [.c (.pv (.int .i64 v11))] rfl ?_
            refine dl (t := 101) 6 [.c (.pv (.bool (decide (v10 ≥ v11))))] rfl ?_
            refine d_endS (env2 := [(101, [.c (.pv (.bool (decide (v10 ≥ v11))))]), (20, [.c (.pv (.int .i64 0))]), (19, [.c (.pv (.int .i64 v9))]), (18, [.c (.pv (.sl (List.map e_i64 v7.2.2)))]), (16, [.c (.box 7 0)]), (15, [.c (.pv (.sl (List.map e_i64 [(IntKind.i64.wrap (a0 0)), (IntKind.i64.wrap (a0 1))])))]), (3, [.c (.box 0 0)]), (8, [.c (.box 3 0)]), (9, [.c (.pv (.int .i64 (IntKind.i64.wrap (4 + (IntKind.i64.wrap v2)))))]), (11, [.c (.pv (.sl (List.map e_flow_Edge [(flow_Edge.mk 0 1 1 1 0 0 (check_Expr.mk (IntKind.i64.wrap (4 + (IntKind.i64.wrap v2))) 0 0 [(check_Expr.mk 2 0 0 []), (check_Expr.mk 1 (IntKind.i64.wrap v1) 0 [])]) (check_Cond.mk 0 (check_Expr.mk 0 0 0 []) (check_Expr.mk 0 0 0 []))), (flow_Edge.mk 0 1 5 0 0 0 (check_Expr.mk 0 0 0 []) (check_Cond.mk 3 (check_Expr.mk 2 0 0 []) (check_Expr.mk 2 0 1 [])))])))]), (12, [.c (.pv (.int .i64 x1))])]) (wm [0, 1, 3, 0, 8, 24, 63]) (by kernel_rfl) (by kernel_rfl) (by kernel_rfl) (oE tbok [] 2 (by kernel_rfl) (oL [] rfl (by kernel_rfl) (fl_lt (ia_sl (e := e_i64) (y := v11) rfl u33 ty3 rfl rfl k13 rfl)) (oE tbok [] 2 (by kernel_rfl) (oL [] rfl (by kernel_rfl) (fl_lt (ia_sl (e := e_i64) (y := v10) rfl u33 ty3 rfl rfl k12 rfl)) (oE tbok [] 1 (by kernel_rfl) trivial))))) (sub_cons rfl (sub_cons rfl (sub_cons rfl (sub_cons rfl (sub_cons rfl (sub_cons rfl (sub_cons rfl (sub_cons rfl (sub_cons rfl (sub_cons rfl (sub_cons rfl sub_nil))))))))))) wT ?_
            refine then_ ?_
            refine cond_ (b := (decide (v10 ≥ v11))) rfl (fun k14 => ?_) (fun k14 => ?_)
            · have h := iteT h k14
              refine region_ ?_
              refine R tbok 1 [20, 19, 18, 16, 15, 3, 8, 9, 11, 12] [(20, [.c (.pv (.int .i64 1))]), (19, [.c (.pv (.int .i64 v9))]), (18, [.c (.pv (.sl (List.map e_i64 v7.2.2)))]), (16, [.c (.box 7 0)]), (15, [.c (.pv (.sl (List.map e_i64 [(IntKind.i64.wrap (a0 0)), (IntKind.i64.wrap (a0 1))])))]), (3, [.c (.box 0 0)]), (8, [.c (.box 3 0)]), (9, [.c (.pv (.int .i64 (IntKind.i64.wrap (4 + (IntKind.i64.wrap v2)))))]), (11, [.c (.pv (.sl (List.map e_flow_Edge [(flow_Edge.mk 0 1 1 1 0 0 (check_Expr.mk (IntKind.i64.wrap (4 + (IntKind.i64.wrap v2))) 0 0 [(check_Expr.mk 2 0 0 []), (check_Expr.mk 1 (IntKind.i64.wrap v1) 0 [])]) (check_Cond.mk 0 (check_Expr.mk 0 0 0 []) (check_Expr.mk 0 0 0 []))), (flow_Edge.mk 0 1 5 0 0 0 (check_Expr.mk 0 0 0 []) (check_Cond.mk 3 (check_Expr.mk 2 0 0 []) (check_Expr.mk 2 0 1 [])))])))]), (12, [.c (.pv (.int .i64 x1))])] (by kernel_rfl) ?_
              refine ops_nil ?_
              obtain rfl := retE h
              refine mN ?_
              refine w_sub (env' := [(3, [.c (.box 0 0)]), (8, [.c (.box 3 0)]), (9, [.c (.pv (.int .i64 (IntKind.i64.wrap (4 + (IntKind.i64.wrap v2)))))]), (11, [.c (.pv (.sl (List.map e_flow_Edge [(flow_Edge.mk 0 1 1 1 0 0 (check_Expr.mk (IntKind.i64.wrap (4 + (IntKind.i64.wrap v2))) 0 0 [(check_Expr.mk 2 0 0 []), (check_Expr.mk 1 (IntKind.i64.wrap v1) 0 [])]) (check_Cond.mk 0 (check_Expr.mk 0 0 0 []) (check_Expr.mk 0 0 0 []))), (flow_Edge.mk 0 1 5 0 0 0 (check_Expr.mk 0 0 0 []) (check_Cond.mk 3 (check_Expr.mk 2 0 0 []) (check_Expr.mk 2 0 1 [])))])))]), (12, [.c (.pv (.int .i64 x1))]), (15, [.c (.pv (.sl (List.map e_i64 [(IntKind.i64.wrap (a0 0)), (IntKind.i64.wrap (a0 1))])))]), (16, [.c (.box 7 0)]), (18, [.c (.pv (.sl (List.map e_i64 v7.2.2)))]), (19, [.c (.pv (.int .i64 v9))]), (20, [.c (.pv (.int .i64 1))])]) (sub_cons rfl (sub_cons rfl (sub_cons rfl (sub_cons rfl (sub_cons rfl (sub_cons rfl (sub_cons rfl (sub_cons rfl (sub_cons rfl (sub_cons rfl sub_nil)))))))))) ?_
              refine w_none 5 (.s (.s (.s (.s (.s .z))))) ?_
              refine w_none 6 (.s (.s (.s (.s (.s (.s .z)))))) ?_
              refine w_cut 8 rfl rfl rfl rfl ?_
              exact wkE (by kernel_rfl) (by kernel_rfl)
            · have h := iteF h k14
              refine skip_ ?_
              obtain rfl := retE h
              refine mN ?_
              refine w_sub (env' := [(3, [.c (.box 0 0)]), (8, [.c (.box 3 0)]), (9, [.c (.pv (.int .i64 (IntKind.i64.wrap (4 + (IntKind.i64.wrap v2)))))]), (11, [.c (.pv (.sl (List.map e_flow_Edge [(flow_Edge.mk 0 1 1 1 0 0 (check_Expr.mk (IntKind.i64.wrap (4 + (IntKind.i64.wrap v2))) 0 0 [(check_Expr.mk 2 0 0 []), (check_Expr.mk 1 (IntKind.i64.wrap v1) 0 [])]) (check_Cond.mk 0 (check_Expr.mk 0 0 0 []) (check_Expr.mk 0 0 0 []))), (flow_Edge.mk 0 1 5 0 0 0 (check_Expr.mk 0 0 0 []) (check_Cond.mk 3 (check_Expr.mk 2 0 0 []) (check_Expr.mk 2 0 1 [])))])))]), (12, [.c (.pv (.int .i64 x1))]), (15, [.c (.pv (.sl (List.map e_i64 [(IntKind.i64.wrap (a0 0)), (IntKind.i64.wrap (a0 1))])))]), (16, [.c (.box 7 0)]), (18, [.c (.pv (.sl (List.map e_i64 v7.2.2)))]), (19, [.c (.pv (.int .i64 v9))]), (20, [.c (.pv (.int .i64 0))])]) (sub_cons rfl (sub_cons rfl (sub_cons rfl (sub_cons rfl (sub_cons rfl (sub_cons rfl (sub_cons rfl (sub_cons rfl (sub_cons rfl (sub_cons rfl sub_nil)))))))))) ?_
              refine w_none 5 (.s (.s (.s (.s (.s .z))))) ?_
              refine w_none 6 (.s (.s (.s (.s (.s (.s .z)))))) ?_
              refine w_cut 8 rfl rfl rfl rfl ?_
              exact wkE (by kernel_rfl) (by kernel_rfl)
          · have h := iteF h k10
            refine skip_ ?_
            obtain rfl := retE h
            refine mN ?_
            refine w_sub (env' := [(3, [.c (.box 0 0)]), (8, [.c (.box 3 0)]), (9, [.c (.pv (.int .i64 (IntKind.i64.wrap (4 + (IntKind.i64.wrap v2)))))]), (11, [.c (.pv (.sl (List.map e_flow_Edge [(flow_Edge.mk 0 1 1 1 0 0 (check_Expr.mk (IntKind.i64.wrap (4 + (IntKind.i64.wrap v2))) 0 0 [(check_Expr.mk 2 0 0 []), (check_Expr.mk 1 (IntKind.i64.wrap v1) 0 [])]) (check_Cond.mk 0 (check_Expr.mk 0 0 0 []) (check_Expr.mk 0 0 0 []))), (flow_Edge.mk 0 1 5 0 0 0 (check_Expr.mk 0 0 0 []) (check_Cond.mk 3 (check_Expr.mk 2 0 0 []) (check_Expr.mk 2 0 1 [])))])))]), (12, [.c (.pv (.int .i64 x1))]), (15, [.c (.pv (.sl (List.map e_i64 [(IntKind.i64.wrap (a0 0)), (IntKind.i64.wrap (a0 1))])))]), (16, [.c (.box 7 0)]), (18, [.c (.pv (.sl (List.map e_i64 v7.2.2)))]), (19, [.c (.pv (.int .i64 v8.1))]), (20, [.c (.pv (.int .i64 v8.2))])]) (sub_cons rfl (sub_cons rfl (sub_cons rfl (sub_cons rfl (sub_cons rfl (sub_cons rfl (sub_cons rfl (sub_cons rfl (sub_cons rfl (sub_cons rfl sub_nil)))))))))) ?_
            refine w_none 5 (.s (.s (.s (.s (.s .z))))) ?_
            refine w_none 6 (.s (.s (.s (.s (.s (.s .z)))))) ?_
            refine w_cut 8 rfl rfl rfl rfl ?_
            exact wkE (by kernel_rfl) (by kernel_rfl)
        · refine then_ ?_
          refine seq_ ?_
          refine seq_ ?_
          refine region_ ?_
          refine R tbok 2 [103, 3, 8, 9, 11, 12, 15, 16, 18, 19, 20] [(103, [.c (.pv (.bool (decide (j3.2 > 0))))]), (3, [.c (.box 0 0)]), (8, [.c (.box 3 0)]), (9, [.c (.pv (.int .i64 (IntKind.i64.wrap (4 + (IntKind.i64.wrap v2)))))]), (11, [.c (.pv (.sl (List.map e_flow_Edge [(flow_Edge.mk 0 1 1 1 0 0 (check_Expr.mk (IntKind.i64.wrap (4 + (IntKind.i64.wrap v2))) 0 0 [(check_Expr.mk 2 0 0 []), (check_Expr.mk 1 (IntKind.i64.wrap v1) 0 [])]) (check_Cond.mk 0 (check_Expr.mk 0 0 0 []) (check_Expr.mk 0 0 0 []))), (flow_Edge.mk 0 1 5 0 0 0 (check_Expr.mk 0 0 0 []) (check_Cond.mk 3 (check_Expr.mk 2 0 0 []) (check_Expr.mk 2 0 1 [])))])))]), (12, [.c (.pv (.int .i64 x1))]), (15, [.c (.pv (.sl (List.map e_i64 [(IntKind.i64.wrap (a0 0)), (IntKind.i64.wrap (a0 1))])))]), (16, [.c (.box 7 0)]), (18, [.c (.pv (.sl (List.map e_i64 v7.2.2)))]), (19, [.c (.pv (.int .i64 j3.1))]), (20, [.c (.pv (.int .i64 j3.2))])] (by kernel_rfl) ?_
          refine ops_nil ?_
          refine then_ ?_
          refine cond_ (b := (decide (j3.2 > 0))) rfl (fun k15 => ?_) (fun k15 => ?_)
          · have h := iteT h k15
            refine seq_ ?_
            refine seq_ ?_
            refine jn_ (fun (j4 : Bool) => (⟨134, 0, [(3, [.c (.box 0 0)]), (8, [.c (.box 3 0)]), (9, [.c (.pv (.int .i64 (IntKind.i64.wrap (4 + (IntKind.i64.wrap v2)))))]), (11, [.c (.pv (.sl (List.map e_flow_Edge [(flow_Edge.mk 0 1 1 1 0 0 (check_Expr.mk (IntKind.i64.wrap (4 + (IntKind.i64.wrap v2))) 0 0 [(check_Expr.mk 2 0 0 []), (check_Expr.mk 1 (IntKind.i64.wrap v1) 0 [])]) (check_Cond.mk 0 (check_Expr.mk 0 0 0 []) (check_Expr.mk 0 0 0 []))), (flow_Edge.mk 0 1 5 0 0 0 (check_Expr.mk 0 0 0 []) (check_Cond.mk 3 (check_Expr.mk 2 0 0 []) (check_Expr.mk 2 0 1 [])))])))]), (12, [.c (.pv (.int .i64 x1))]), (15, [.c (.pv (.sl (List.map e_i64 [(IntKind.i64.wrap (a0 0)), (IntKind.i64.wrap (a0 1))])))]), (16, [.c (.box 7 0)]), (18, [.c (.pv (.sl (List.map e_i64 v7.2.2)))]), (19, [.c (.pv (.int .i64 j3.1))]), (118, [.c (.pv (.bool j4))])], [some (.box true 22 [.pv (.int .i32 (a0 0)), .pv (.int .i32 (a0 1))]), none, none, some (.box true 25 [.pv (.int .i64 1), .pv (.int .i64 (IntKind.i64.wrap v1)), .pv (.int .i64 0), .emp]), none, none, none, some (.box true 49 (bs (e_trans_State v7.1)))]⟩ : Sx)) h wT (fun o h => ?_) (fun j4 h => ?_)
            · refine region_ ?_
              refine R tbok 1 [104, 3, 8, 9, 11, 12, 15, 16, 18, 19, 20] [(104, [.agg (bs (e_trans_State v7.1))]), (3, [.c (.box 0 0)]), (8, [.c (.box 3 0)]), (9, [.c (.pv (.int .i64 (IntKind.i64.wrap (4 + (IntKind.i64.wrap v2)))))]), (11, [.c (.pv (.sl (List.map e_flow_Edge [(flow_Edge.mk 0 1 1 1 0 0 (check_Expr.mk (IntKind.i64.wrap (4 + (IntKind.i64.wrap v2))) 0 0 [(check_Expr.mk 2 0 0 []), (check_Expr.mk 1 (IntKind.i64.wrap v1) 0 [])]) (check_Cond.mk 0 (check_Expr.mk 0 0 0 []) (check_Expr.mk 0 0 0 []))), (flow_Edge.mk 0 1 5 0 0 0 (check_Expr.mk 0 0 0 []) (check_Cond.mk 3 (check_Expr.mk 2 0 0 []) (check_Expr.mk 2 0 1 [])))])))]), (12, [.c (.pv (.int .i64 x1))]), (15, [.c (.pv (.sl (List.map e_i64 [(IntKind.i64.wrap (a0 0)), (IntKind.i64.wrap (a0 1))])))]), (16, [.c (.box 7 0)]), (18, [.c (.pv (.sl (List.map e_i64 v7.2.2)))]), (19, [.c (.pv (.int .i64 j3.1))]), (20, [.c (.pv (.int .i64 j3.2))])] (by kernel_rfl) ?_
              obtain ⟨v12, k16, h⟩ := bindE h
              refine C rfl rfl (fl_call rfl Try.call10 rfl (by kernel_rfl) (by kernel_rfl) (trans_Empty_meets k16)) rfl ?_
              refine R tbok 2 [107, 3, 8, 9, 11, 12, 15, 16, 18, 19, 20] [(107, [.c (.pv (.bool (!v12)))]), (3, [.c (.box 0 0)]), (8, [.c (.box 3 0)]), (9, [.c (.pv (.int .i64 (IntKind.i64.wrap (4 + (IntKind.i64.wrap v2)))))]), (11, [.c (.pv (.sl (List.map e_flow_Edge [(flow_Edge.mk 0 1 1 1 0 0 (check_Expr.mk (IntKind.i64.wrap (4 + (IntKind.i64.wrap v2))) 0 0 [(check_Expr.mk 2 0 0 []), (check_Expr.mk 1 (IntKind.i64.wrap v1) 0 [])]) (check_Cond.mk 0 (check_Expr.mk 0 0 0 []) (check_Expr.mk 0 0 0 []))), (flow_Edge.mk 0 1 5 0 0 0 (check_Expr.mk 0 0 0 []) (check_Cond.mk 3 (check_Expr.mk 2 0 0 []) (check_Expr.mk 2 0 1 [])))])))]), (12, [.c (.pv (.int .i64 x1))]), (15, [.c (.pv (.sl (List.map e_i64 [(IntKind.i64.wrap (a0 0)), (IntKind.i64.wrap (a0 1))])))]), (16, [.c (.box 7 0)]), (18, [.c (.pv (.sl (List.map e_i64 v7.2.2)))]), (19, [.c (.pv (.int .i64 j3.1))]), (20, [.c (.pv (.int .i64 j3.2))])] (by kernel_rfl) ?_
              refine (tf (!v12)).elim (fun k17 => ?_) (fun k17 => ?_)
              · have h := iteT h k17
                refine Ls0 rfl rfl rfl k17 rfl rfl ?_
                refine Ls0 rfl rfl rfl k17 rfl rfl ?_
                refine Ls0 rfl rfl rfl k17 rfl rfl ?_
                refine L rfl rfl (lt_pickT rfl rfl k17 rfl) rfl ?_
                refine R tbok 1 [112, 3, 8, 9, 11, 12, 15, 16, 18, 19, 20] [(112, [.c (.pv (.bool true))]), (3, [.c (.box 0 0)]), (8, [.c (.box 3 0)]), (9, [.c (.pv (.int .i64 (IntKind.i64.wrap (4 + (IntKind.i64.wrap v2)))))]), (11, [.c (.pv (.sl (List.map e_flow_Edge [(flow_Edge.mk 0 1 1 1 0 0 (check_Expr.mk (IntKind.i64.wrap (4 + (IntKind.i64.wrap v2))) 0 0 [(check_Expr.mk 2 0 0 []), (check_Expr.mk 1 (IntKind.i64.wrap v1) 0 [])]) (check_Cond.mk 0 (check_Expr.mk 0 0 0 []) (check_Expr.mk 0 0 0 []))), (flow_Edge.mk 0 1 5 0 0 0 (check_Expr.mk 0 0 0 []) (check_Cond.mk 3 (check_Expr.mk 2 0 0 []) (check_Expr.mk 2 0 1 [])))])))]), (12, [.c (.pv (.int .i64 x1))]), (15, [.c (.pv (.sl (List.map e_i64 [(IntKind.i64.wrap (a0 0)), (IntKind.i64.wrap (a0 1))])))]), (16, [.c (.box 7 0)]), (18, [.c (.pv (.sl (List.map e_i64 v7.2.2)))]), (19, [.c (.pv (.int .i64 j3.1))]), (20, [.c (.pv (.int .i64 j3.2))])] (by kernel_rfl) ?_
                refine Ls0 rfl rfl rfl rfl rfl rfl ?_
                refine Ls0 rfl rfl rfl rfl rfl rfl ?_
                refine Ls0 rfl rfl rfl rfl rfl rfl ?_
                refine Ls0 rfl rfl rfl rfl rfl rfl ?_
                refine Ls0 rfl rfl rfl rfl rfl rfl ?_
                refine L rfl rfl (lt_pickT rfl rfl rfl rfl) rfl ?_
                refine ops_nil ?_
                obtain rfl := retE h
                refine mN ?_
                refine w_sub (env' := [(3, [.c (.box 0 0)]), (8, [.c (.box 3 0)]), (9, [.c (.pv (.int .i64 (IntKind.i64.wrap (4 + (IntKind.i64.wrap v2)))))]), (11, [.c (.pv (.sl (List.map e_flow_Edge [(flow_Edge.mk 0 1 1 1 0 0 (check_Expr.mk (IntKind.i64.wrap (4 + (IntKind.i64.wrap v2))) 0 0 [(check_Expr.mk 2 0 0 []), (check_Expr.mk 1 (IntKind.i64.wrap v1) 0 [])]) (check_Cond.mk 0 (check_Expr.mk 0 0 0 []) (check_Expr.mk 0 0 0 []))), (flow_Edge.mk 0 1 5 0 0 0 (check_Expr.mk 0 0 0 []) (check_Cond.mk 3 (check_Expr.mk 2 0 0 []) (check_Expr.mk 2 0 1 [])))])))]), (12, [.c (.pv (.int .i64 x1))]), (15, [.c (.pv (.sl (List.map e_i64 [(IntKind.i64.wrap (a0 0)), (IntKind.i64.wrap (a0 1))])))]), (16, [.c (.box 7 0)]), (18, [.c (.pv (.sl (List.map e_i64 v7.2.2)))]), (19, [.c (.pv (.int .i64 j3.1))]), (118, [.c (.pv (.bool true))])]) (sub_cons rfl (sub_cons rfl (sub_cons rfl (sub_cons rfl (sub_cons rfl (sub_cons rfl (sub_cons rfl (sub_cons rfl (sub_cons rfl (sub_cons rfl sub_nil)))))))))) ?_
                exact wkE (by kernel_rfl) (by kernel_rfl)
              · have h := iteF h k17
                refine Lg rfl rfl rfl k17 rfl (lt_move rfl rfl) rfl ?_
                refine Lg rfl rfl rfl k17 rfl (len_sl (e := e_i64) rfl u33 rfl) rfl ?_
                refine Lg rfl rfl rfl k17 rfl (lt_int rfl rfl rfl rfl) rfl ?_
                refine L rfl rfl (lt_pickF rfl rfl k17 rfl) rfl ?_
                refine R tbok 1 [112, 3, 8, 9, 11, 12, 15, 16, 18, 19, 20] [(112, [.c (.pv (.bool ((v7.2.2.length : Int) != 1)))]), (3, [.c (.box 0 0)]), (8, [.c (.box 3 0)]), (9, [.c (.pv (.int .i64 (IntKind.i64.wrap (4 + (IntKind.i64.wrap v2)))))]), (11, [.c (.pv (.sl (List.map e_flow_Edge [(flow_Edge.mk 0 1 1 1 0 0 (check_Expr.mk (IntKind.i64.wrap (4 + (IntKind.i64.wrap v2))) 0 0 [(check_Expr.mk 2 0 0 []), (check_Expr.mk 1 (IntKind.i64.wrap v1) 0 [])]) (check_Cond.mk 0 (check_Expr.mk 0 0 0 []) (check_Expr.mk 0 0 0 []))), (flow_Edge.mk 0 1 5 0 0 0 (check_Expr.mk 0 0 0 []) (check_Cond.mk 3 (check_Expr.mk 2 0 0 []) (check_Expr.mk 2 0 1 [])))])))]), (12, [.c (.pv (.int .i64 x1))]), (15, [.c (.pv (.sl (List.map e_i64 [(IntKind.i64.wrap (a0 0)), (IntKind.i64.wrap (a0 1))])))]), (16, [.c (.box 7 0)]), (18, [.c (.pv (.sl (List.map e_i64 v7.2.2)))]), (19, [.c (.pv (.int .i64 j3.1))]), (20, [.c (.pv (.int .i64 j3.2))])] (by kernel_rfl) ?_
                refine (tf ((v7.2.2.length : Int) != 1)).elim (fun k18 => ?_) (fun k18 => ?_)
                · have h := iteT h k18
                  refine Ls0 rfl rfl rfl k18 rfl rfl ?_
                  refine Ls0 rfl rfl rfl k18 rfl rfl ?_
                  refine Ls0 rfl rfl rfl k18 rfl rfl ?_
                  refine Ls0 rfl rfl rfl k18 rfl rfl ?_
                  refine Ls0 rfl rfl rfl k18 rfl rfl ?_
                  refine L rfl rfl (lt_pickT rfl rfl k18 rfl) rfl ?_
                  refine ops_nil ?_
                  obtain rfl := retE h
                  refine mN ?_
                  refine w_sub (env' := [(3, [.c (.box 0 0)]), (8, [.c (.box 3 0)]), (9, [.c (.pv (.int .i64 (IntKind.i64.wrap (4 + (IntKind.i64.wrap v2)))))]), (11, [.c (.pv (.sl (List.map e_flow_Edge [(flow_Edge.mk 0 1 1 1 0 0 (check_Expr.mk (IntKind.i64.wrap (4 + (IntKind.i64.wrap v2))) 0 0 [(check_Expr.mk 2 0 0 []), (check_Expr.mk 1 (IntKind.i64.wrap v1) 0 [])]) (check_Cond.mk 0 (check_Expr.mk 0 0 0 []) (check_Expr.mk 0 0 0 []))), (flow_Edge.mk 0 1 5 0 0 0 (check_Expr.mk 0 0 0 []) (check_Cond.mk 3 (check_Expr.mk 2 0 0 []) (check_Expr.mk 2 0 1 [])))])))]), (12, [.c (.pv (.int .i64 x1))]), (15, [.c (.pv (.sl (List.map e_i64 [(IntKind.i64.wrap (a0 0)), (IntKind.i64.wrap (a0 1))])))]), (16, [.c (.box 7 0)]), (18, [.c (.pv (.sl (List.map e_i64 v7.2.2)))]), (19, [.c (.pv (.int .i64 j3.1))]), (118, [.c (.pv (.bool true))])]) (sub_cons rfl (sub_cons rfl (sub_cons rfl (sub_cons rfl (sub_cons rfl (sub_cons rfl (sub_cons rfl (sub_cons rfl (sub_cons rfl (sub_cons rfl sub_nil)))))))))) ?_
                  exact wkE (by kernel_rfl) (by kernel_rfl)
                · have h := iteF h k18
                  refine Lg rfl rfl rfl k18 rfl (lt_move rfl rfl) rfl ?_
                  obtain ⟨v13, k19, h⟩ := bindE h
                  refine Lg rfl rfl rfl k18 rfl (ia_sl (e := e_i64) (y := v13) rfl u33 ty3 rfl rfl k19 rfl) rfl ?_
                  refine Lg rfl rfl rfl k18 rfl (lt_load_ep rfl ty3 rfl) rfl ?_
                  refine Lg rfl rfl rfl k18 rfl (lt_move rfl rfl) rfl ?_
                  refine Lg rfl rfl rfl k18 rfl (lt_int rfl rfl rfl rfl) rfl ?_
                  refine L rfl rfl (lt_pickF rfl rfl k18 rfl) rfl ?_
                  refine ops_nil ?_
                  obtain rfl := retE h
                  refine mN ?_
                  refine w_sub (env' := [(3, [.c (.box 0 0)]), (8, [.c (.box 3 0)]), (9, [.c (.pv (.int .i64 (IntKind.i64.wrap (4 + (IntKind.i64.wrap v2)))))]), (11, [.c (.pv (.sl (List.map e_flow_Edge [(flow_Edge.mk 0 1 1 1 0 0 (check_Expr.mk (IntKind.i64.wrap (4 + (IntKind.i64.wrap v2))) 0 0 [(check_Expr.mk 2 0 0 []), (check_Expr.mk 1 (IntKind.i64.wrap v1) 0 [])]) (check_Cond.mk 0 (check_Expr.mk 0 0 0 []) (check_Expr.mk 0 0 0 []))), (flow_Edge.mk 0 1 5 0 0 0 (check_Expr.mk 0 0 0 []) (check_Cond.mk 3 (check_Expr.mk 2 0 0 []) (check_Expr.mk 2 0 1 [])))])))]), (12, [.c (.pv (.int .i64 x1))]), (15, [.c (.pv (.sl (List.map e_i64 [(IntKind.i64.wrap (a0 0)), (IntKind.i64.wrap (a0 1))])))]), (16, [.c (.box 7 0)]), (18, [.c (.pv (.sl (List.map e_i64 v7.2.2)))]), (19, [.c (.pv (.int .i64 j3.1))]), (118, [.c (.pv (.bool (v13 != j3.2)))])]) (sub_cons rfl (sub_cons rfl (sub_cons rfl (sub_cons rfl (sub_cons rfl (sub_cons rfl (sub_cons rfl (sub_cons rfl (sub_cons rfl (sub_cons rfl sub_nil)))))))))) ?_
                  exact wkE (by kernel_rfl) (by kernel_rfl)
            · refine then_ ?_
              refine cond_ (b := j4) rfl (fun k20 => ?_) (fun k20 => ?_)
              · have h := iteT h k20
                refine seq_ ?_
                refine region_ ?_
                refine R tbok 1 [6, 3, 8, 9, 11, 12, 15, 16, 18, 19] [(6, [.c (.pv (.bool false))]), (3, [.c (.box 0 0)]), (8, [.c (.box 3 0)]), (9, [.c (.pv (.int .i64 (IntKind.i64.wrap (4 + (IntKind.i64.wrap v2)))))]), (11, [.c (.pv (.sl (List.map e_flow_Edge [(flow_Edge.mk 0 1 1 1 0 0 (check_Expr.mk (IntKind.i64.wrap (4 + (IntKind.i64.wrap v2))) 0 0 [(check_Expr.mk 2 0 0 []), (check_Expr.mk 1 (IntKind.i64.wrap v1) 0 [])]) (check_Cond.mk 0 (check_Expr.mk 0 0 0 []) (check_Expr.mk 0 0 0 []))), (flow_Edge.mk 0 1 5 0 0 0 (check_Expr.mk 0 0 0 []) (check_Cond.mk 3 (check_Expr.mk 2 0 0 []) (check_Expr.mk 2 0 1 [])))])))]), (12, [.c (.pv (.int .i64 x1))]), (15, [.c (.pv (.sl (List.map e_i64 [(IntKind.i64.wrap (a0 0)), (IntKind.i64.wrap (a0 1))])))]), (16, [.c (.box 7 0)]), (18, [.c (.pv (.sl (List.map e_i64 v7.2.2)))]), (19, [.c (.pv (.int .i64 j3.1))])] (by kernel_rfl) ?_
                refine ops_nil ?_
                refine then_ ?_
                refine ret_ ?_
                obtain rfl := retE h
                refine tR (tR (bR (mRR (rw_ (.tmp rfl .nil) ?_))))
                refine w_none 0 .z ?_
                refine w_none 3 (.s (.s (.s .z))) ?_
                refine w_none 7 (.s (.s (.s (.s (.s (.s (.s .z))))))) ?_
                refine w_cut 0 rfl rfl rfl rfl ?_
                exact wkE (by kernel_rfl) (by kernel_rfl)
              · have h := iteF h k20
                refine skip_ ?_
                refine then_ ?_
                refine exit_ ?_
                refine tX ?_
                refine bH ?_
                obtain rfl := retE h
                refine mRN ?_
                refine w_sub (env' := [(3, [.c (.box 0 0)]), (8, [.c (.box 3 0)]), (9, [.c (.pv (.int .i64 (IntKind.i64.wrap (4 + (IntKind.i64.wrap v2)))))]), (11, [.c (.pv (.sl (List.map e_flow_Edge [(flow_Edge.mk 0 1 1 1 0 0 (check_Expr.mk (IntKind.i64.wrap (4 + (IntKind.i64.wrap v2))) 0 0 [(check_Expr.mk 2 0 0 []), (check_Expr.mk 1 (IntKind.i64.wrap v1) 0 [])]) (check_Cond.mk 0 (check_Expr.mk 0 0 0 []) (check_Expr.mk 0 0 0 []))), (flow_Edge.mk 0 1 5 0 0 0 (check_Expr.mk 0 0 0 []) (check_Cond.mk 3 (check_Expr.mk 2 0 0 []) (check_Expr.mk 2 0 1 [])))])))]), (12, [.c (.pv (.int .i64 x1))])]) (sub_cons rfl (sub_cons rfl (sub_cons rfl (sub_cons rfl (sub_cons rfl sub_nil))))) ?_
                refine w_cut 4 rfl rfl rfl rfl ?_
                exact wkE (by kernel_rfl) (by kernel_rfl)
          · have h := iteF h k15
            refine skip_ ?_
            refine then_ ?_
            refine seq_ ?_
            refine jn_ (fun (j5 : Bool) => (⟨134, 0, [(3, [.c (.box 0 0)]), (8, [.c (.box 3 0)]), (9, [.c (.pv (.int .i64 (IntKind.i64.wrap (4 + (IntKind.i64.wrap v2)))))]), (11, [.c (.pv (.sl (List.map e_flow_Edge [(flow_Edge.mk 0 1 1 1 0 0 (check_Expr.mk (IntKind.i64.wrap (4 + (IntKind.i64.wrap v2))) 0 0 [(check_Expr.mk 2 0 0 []), (check_Expr.mk 1 (IntKind.i64.wrap v1) 0 [])]) (check_Cond.mk 0 (check_Expr.mk 0 0 0 []) (check_Expr.mk 0 0 0 []))), (flow_Edge.mk 0 1 5 0 0 0 (check_Expr.mk 0 0 0 []) (check_Cond.mk 3 (check_Expr.mk 2 0 0 []) (check_Expr.mk 2 0 1 [])))])))]), (12, [.c (.pv (.int .i64 x1))]), (132, [.c (.pv (.bool j5))])], [some (.box true 22 [.pv (.int .i32 (a0 0)), .pv (.int .i32 (a0 1))]), none, none, some (.box true 25 [.pv (.int .i64 1), .pv (.int .i64 (IntKind.i64.wrap v1)), .pv (.int .i64 0), .emp])]⟩ : Sx)) h wT (fun o h => ?_) (fun j5 h => ?_)
            · refine drawn_ mixed ?_
              refine dl (t := 119) 0 [.c (.pv (.sl (List.map e_i64 v7.2.2)))] rfl ?_
              refine dl (t := 120) 1 [.c (.pv (.int .i64 (v7.2.2.length : Int)))] rfl ?_
              refine dl (t := 121) 2 [.c (.pv (.bool ((v7.2.2.length : Int) != 0)))] rfl ?_
              refine dl (t := 122) 3 [.c (.pv (.bool ((v7.2.2.length : Int) != 0)))] rfl ?_
              refine (tf ((v7.2.2.length : Int) != 0)).elim (fun k21 => ?_) (fun k21 => ?_)
              · have h := iteT h k21
                refine ds (t := 123) 4 rfl ?_
                refine ds (t := 124) 5 rfl ?_
                refine ds (t := 125) 6 rfl ?_
                refine ds (t := 126) 7 rfl ?_
                refine ds (t := 127) 8 rfl ?_
                refine ds (t := 128) 9 rfl ?_
                refine ds (t := 129) 10 rfl ?_
                refine ds (t := 130) 11 rfl ?_
                refine ds (t := 131) 12 rfl ?_
                refine dl (t := 132) 13 [.c (.pv (.bool true))] rfl ?_
                refine d_endS (env2 := [(132, [.c (.pv (.bool true))]), (3, [.c (.box 0 0)]), (8, [.c (.box 3 0)]), (9, [.c (.pv (.int .i64 (IntKind.i64.wrap (4 + (IntKind.i64.wrap v2)))))]), (11, [.c (.pv (.sl (List.map e_flow_Edge [(flow_Edge.mk 0 1 1 1 0 0 (check_Expr.mk (IntKind.i64.wrap (4 + (IntKind.i64.wrap v2))) 0 0 [(check_Expr.mk 2 0 0 []), (check_Expr.mk 1 (IntKind.i64.wrap v1) 0 [])]) (check_Cond.mk 0 (check_Expr.mk 0 0 0 []) (check_Expr.mk 0 0 0 []))), (flow_Edge.mk 0 1 5 0 0 0 (check_Expr.mk 0 0 0 []) (check_Cond.mk 3 (check_Expr.mk 2 0 0 []) (check_Expr.mk 2 0 1 [])))])))]), (12, [.c (.pv (.int .i64 x1))])]) (wm [0, 1, 3, 7, 15, 31, 15, 79, 207, 15, 975, 2047, 4095, 8191]) (by kernel_rfl) (by kernel_rfl) (by kernel_rfl) (oL [] rfl (by kernel_rfl) (fl_lt (lt_pickT rfl rfl k21 rfl)) (owF (by kernel_rfl) (fo_s [] rfl rfl rfl (by kernel_rfl) (by kernel_rfl) (by kernel_rfl) (gi1 rfl rfl rfl (beF k21))) (owF (by kernel_rfl) (fo_s [] rfl rfl rfl (by kernel_rfl) (by kernel_rfl) (by kernel_rfl) (gi1 rfl rfl rfl (beF k21))) (owF (by kernel_rfl) (fo_s [] rfl rfl rfl (by kernel_rfl) (by kernel_rfl) (by kernel_rfl) (gi1 rfl rfl rfl (beF k21))) (owF (by kernel_rfl) (fo_s [] rfl rfl rfl (by kernel_rfl) (by kernel_rfl) (by kernel_rfl) (gi1 rfl rfl rfl (beF k21))) (owF (by kernel_rfl) (fo_s [] rfl rfl rfl (by kernel_rfl) (by kernel_rfl) (by kernel_rfl) (gi1 rfl rfl rfl (beF k21))) (owF (by kernel_rfl) (fo_s [] rfl rfl rfl (by kernel_rfl) (by kernel_rfl) (by kernel_rfl) (gi1 rfl rfl rfl (beF k21))) (owF (by kernel_rfl) (fo_s [] rfl rfl rfl (by kernel_rfl) (by kernel_rfl) (by kernel_rfl) (gi1 rfl rfl rfl (beF k21))) (owF (by kernel_rfl) (fo_s [] rfl rfl rfl (by kernel_rfl) (by kernel_rfl) (by kernel_rfl) (gi1 rfl rfl rfl (beF k21))) (owF (by kernel_rfl) (fo_s [] rfl rfl rfl (by kernel_rfl) (by kernel_rfl) (by kernel_rfl) (gi1 rfl rfl rfl (beF k21))) (oE tbok [] 2 (by kernel_rfl) (oL [] rfl (by kernel_rfl) (fl_lt (len_sl (e := e_i64) rfl u33 rfl)) (oE tbok [] 1 (by kernel_rfl) trivial))))))))))))) (sub_cons rfl (sub_cons rfl (sub_cons rfl (sub_cons rfl (sub_cons rfl (sub_cons rfl sub_nil)))))) wM ?_
                obtain rfl := retE h
                refine mN ?_
                refine w_sub (env' := [(3, [.c (.box 0 0)]), (8, [.c (.box 3 0)]), (9, [.c (.pv (.int .i64 (IntKind.i64.wrap (4 + (IntKind.i64.wrap v2)))))]), (11, [.c (.pv (.sl (List.map e_flow_Edge [(flow_Edge.mk 0 1 1 1 0 0 (check_Expr.mk (IntKind.i64.wrap (4 + (IntKind.i64.wrap v2))) 0 0 [(check_Expr.mk 2 0 0 []), (check_Expr.mk 1 (IntKind.i64.wrap v1) 0 [])]) (check_Cond.mk 0 (check_Expr.mk 0 0 0 []) (check_Expr.mk 0 0 0 []))), (flow_Edge.mk 0 1 5 0 0 0 (check_Expr.mk 0 0 0 []) (check_Cond.mk 3 (check_Expr.mk 2 0 0 []) (check_Expr.mk 2 0 1 [])))])))]), (12, [.c (.pv (.int .i64 x1))]), (132, [.c (.pv (.bool true))])]) (sub_cons rfl (sub_cons rfl (sub_cons rfl (sub_cons rfl (sub_cons rfl (sub_cons rfl sub_nil)))))) ?_
                refine w_cut 4 rfl rfl rfl rfl ?_
                exact wkE (by kernel_rfl) (by kernel_rfl)
              · have h := iteF h k21
                refine dl (t := 123) 4 [.c (.box 7 0)] rfl ?_
                refine dl (t := 124) 5 [.agg (bs (e_num_Num v7.1.N))] rfl ?_
                refine dl (t := 125) 6 [.c (.pv (.sl (List.map e_i64 [(IntKind.i64.wrap (a0 0)), (IntKind.i64.wrap (a0 1))])))] rfl ?_
                obtain ⟨v14, k22, h⟩ := bindE h
                refine dl (t := 126) 7 [.c (.ep [.int .i64 v14])] rfl ?_
                refine dl (t := 127) 8 [.c (.pv (.int .i64 v14))] rfl ?_
                refine dl (t := 128) 9 [.c (.pv (.int .i64 j3.1))] rfl ?_
                refine dl (t := 129) 10 [.c (.pv (.sl (List.map e_i64 [v14, j3.1])))] rfl ?_
                obtain ⟨v16, k24, h⟩ := bindE h
                refine dl (t := 130) 11 [.c (.pv (.bool v16))] rfl ?_
                refine dl (t := 131) 12 [.c (.pv (.bool (!v16)))] rfl ?_
                refine dl (t := 132) 13 [.c (.pv (.bool (!v16)))] rfl ?_
                refine d_endS (env2 := [(132, [.c (.pv (.bool (!v16)))]), (3, [.c (.box 0 0)]), (8, [.c (.box 3 0)]), (9, [.c (.pv (.int .i64 (IntKind.i64.wrap (4 + (IntKind.i64.wrap v2)))))]), (11, [.c (.pv (.sl (List.map e_flow_Edge [(flow_Edge.mk 0 1 1 1 0 0 (check_Expr.mk (IntKind.i64.wrap (4 + (IntKind.i64.wrap v2))) 0 0 [(check_Expr.mk 2 0 0 []), (check_Expr.mk 1 (IntKind.i64.wrap v1) 0 [])]) (check_Cond.mk 0 (check_Expr.mk 0 0 0 []) (check_Expr.mk 0 0 0 []))), (flow_Edge.mk 0 1 5 0 0 0 (check_Expr.mk 0 0 0 []) (check_Cond.mk 3 (check_Expr.mk 2 0 0 []) (check_Expr.mk 2 0 1 [])))])))]), (12, [.c (.pv (.int .i64 x1))])]) (wm [0, 1, 3, 7, 15, 31, 15, 79, 207, 15, 975, 2047, 4095, 8191]) (by kernel_rfl) (by kernel_rfl) (by kernel_rfl) (oL [] rfl (by kernel_rfl) (fl_lt (lt_pickF rfl rfl k21 rfl)) (owF (by kernel_rfl) (fo_l [] rfl rfl rfl (by kernel_rfl) (by kernel_rfl) (by kernel_rfl) (gi1 rfl rfl rfl (beT k21)) (fl_lt (lt_not rfl rfl))) (owF (by kernel_rfl) (fo_l [] rfl rfl rfl (by kernel_rfl) (by kernel_rfl) (by kernel_rfl) (gi1 rfl rfl rfl (beT k21)) (fl_call rfl Try.call11 rfl (by kernel_rfl) (by kernel_rfl) (num_Has_meets k24))) (owF (by kernel_rfl) (fo_l [] rfl rfl rfl (by kernel_rfl) (by kernel_rfl) (by kernel_rfl) (gi1 rfl rfl rfl (beT k21)) (fl_slice (List.map e_i64 [v14, j3.1]) rfl sl33 rfl rfl rfl rfl rfl rfl rfl)) (owF (by kernel_rfl) (fo_l [] rfl rfl rfl (by kernel_rfl) (by kernel_rfl) (by kernel_rfl) (gi1 rfl rfl rfl (beT k21)) (fl_lt (lt_move rfl rfl))) (owF (by kernel_rfl) (fo_l [] rfl rfl rfl (by kernel_rfl) (by kernel_rfl) (by kernel_rfl) (gi1 rfl rfl rfl (beT k21)) (fl_lt (lt_load_ep rfl ty3 rfl))) (owF (by kernel_rfl) (fo_l [] rfl rfl rfl (by kernel_rfl) (by kernel_rfl) (by kernel_rfl) (gi1 rfl rfl rfl (beT k21)) (fl_lt (ia_sl (e := e_i64) (y := v14) rfl u33 ty3 rfl rfl k22 rfl))) (owF (by kernel_rfl) (fo_l [] rfl rfl rfl (by kernel_rfl) (by kernel_rfl) (by kernel_rfl) (gi1 rfl rfl rfl (beT k21)) (fl_lt (lt_move rfl rfl))) (owF (by kernel_rfl) (fo_l [] rfl rfl rfl (by kernel_rfl) (by kernel_rfl) (by kernel_rfl) (gi1 rfl rfl rfl (beT k21)) (fl_lt (lt_load_boxA (ys := (bs (e_num_Num v7.1.N))) rfl ty46 rfl rfl (by kernel_rfl) (by kernel_rfl)))) (owF (by kernel_rfl) (fo_l [] rfl rfl rfl (by kernel_rfl) (by kernel_rfl) (by kernel_rfl) (gi1 rfl rfl rfl (beT k21)) (fl_lt (lt_fa_box rfl f49_0 ty46 (by decide) rfl))) (oE tbok [] 2 (by kernel_rfl) (oL [] rfl (by kernel_rfl) (fl_lt (len_sl (e := e_i64) rfl u33 rfl)) (oE tbok [] 1 (by kernel_rfl) trivial))))))))))))) (sub_cons rfl (sub_cons rfl (sub_cons rfl (sub_cons rfl (sub_cons rfl (sub_cons rfl sub_nil)))))) wM ?_
                obtain rfl := retE h
                refine mN ?_
                refine w_sub (env' := [(3, [.c (.box 0 0)]), (8, [.c (.box 3 0)]), (9, [.c (.pv (.int .i64 (IntKind.i64.wrap (4 + (IntKind.i64.wrap v2)))))]), (11, [.c (.pv (.sl (List.map e_flow_Edge [(flow_Edge.mk 0 1 1 1 0 0 (check_Expr.mk (IntKind.i64.wrap (4 + (IntKind.i64.wrap v2))) 0 0 [(check_Expr.mk 2 0 0 []), (check_Expr.mk 1 (IntKind.i64.wrap v1) 0 [])]) (check_Cond.mk 0 (check_Expr.mk 0 0 0 []) (check_Expr.mk 0 0 0 []))), (flow_Edge.mk 0 1 5 0 0 0 (check_Expr.mk 0 0 0 []) (check_Cond.mk 3 (check_Expr.mk 2 0 0 []) (check_Expr.mk 2 0 1 [])))])))]), (12, [.c (.pv (.int .i64 x1))]), (132, [.c (.pv (.bool (!v16)))])]) (sub_cons rfl (sub_cons rfl (sub_cons rfl (sub_cons rfl (sub_cons rfl (sub_cons rfl sub_nil)))))) ?_
                refine w_cut 4 rfl rfl rfl rfl ?_
                exact wkE (by kernel_rfl) (by kernel_rfl)
            · refine then_ ?_
              refine cond_ (b := j5) rfl (fun k25 => ?_) (fun k25 => ?_)
              · have h := iteT h k25
                refine seq_ ?_
                refine region_ ?_
                refine R tbok 1 [6, 3, 8, 9, 11, 12] [(6, [.c (.pv (.bool false))]), (3, [.c (.box 0 0)]), (8, [.c (.box 3 0)]), (9, [.c (.pv (.int .i64 (IntKind.i64.wrap (4 + (IntKind.i64.wrap v2)))))]), (11, [.c (.pv (.sl (List.map e_flow_Edge [(flow_Edge.mk 0 1 1 1 0 0 (check_Expr.mk (IntKind.i64.wrap (4 + (IntKind.i64.wrap v2))) 0 0 [(check_Expr.mk 2 0 0 []), (check_Expr.mk 1 (IntKind.i64.wrap v1) 0 [])]) (check_Cond.mk 0 (check_Expr.mk 0 0 0 []) (check_Expr.mk 0 0 0 []))), (flow_Edge.mk 0 1 5 0 0 0 (check_Expr.mk 0 0 0 []) (check_Cond.mk 3 (check_Expr.mk 2 0 0 []) (check_Expr.mk 2 0 1 [])))])))]), (12, [.c (.pv (.int .i64 x1))])] (by kernel_rfl) ?_
                refine ops_nil ?_
                refine then_ ?_
                refine ret_ ?_
                obtain rfl := retE h
                refine bR (mRR (rw_ (.tmp rfl .nil) ?_))
                refine w_none 0 .z ?_
                refine w_none 3 (.s (.s (.s .z))) ?_
                refine w_cut 0 rfl rfl rfl rfl ?_
                exact wkE (by kernel_rfl) (by kernel_rfl)
              · have h := iteF h k25
                refine skip_ ?_
                refine bN ?_
                obtain rfl := retE h
                refine mRN ?_
                refine w_sub (env' := [(3, [.c (.box 0 0)]), (8, [.c (.box 3 0)]), (9, [.c (.pv (.int .i64 (IntKind.i64.wrap (4 + (IntKind.i64.wrap v2)))))]), (11, [.c (.pv (.sl (List.map e_flow_Edge [(flow_Edge.mk 0 1 1 1 0 0 (check_Expr.mk (IntKind.i64.wrap (4 + (IntKind.i64.wrap v2))) 0 0 [(check_Expr.mk 2 0 0 []), (check_Expr.mk 1 (IntKind.i64.wrap v1) 0 [])]) (check_Cond.mk 0 (check_Expr.mk 0 0 0 []) (check_Expr.mk 0 0 0 []))), (flow_Edge.mk 0 1 5 0 0 0 (check_Expr.mk 0 0 0 []) (check_Cond.mk 3 (check_Expr.mk 2 0 0 []) (check_Expr.mk 2 0 1 [])))])))]), (12, [.c (.pv (.int .i64 x1))])]) (sub_cons rfl (sub_cons rfl (sub_cons rfl (sub_cons rfl (sub_cons rfl sub_nil))))) ?_
                exact wkE (by kernel_rfl) (by kernel_rfl)
      · have h := elimL h
        obtain rfl := retE h
        exact (tR (lR hs))
      · have h := elimR h
        refine then_ ?_
        refine region_ ?_
        refine R tbok 3 [12, 3, 8, 9, 11] [(12, [.c (.pv (.int .i64 (IntKind.i64.wrap (x1 + 1))))]), (3, [.c (.box 0 0)]), (8, [.c (.box 3 0)]), (9, [.c (.pv (.int .i64 (IntKind.i64.wrap (4 + (IntKind.i64.wrap v2)))))]), (11, [.c (.pv (.sl (List.map e_flow_Edge [(flow_Edge.mk 0 1 1 1 0 0 (check_Expr.mk (IntKind.i64.wrap (4 + (IntKind.i64.wrap v2))) 0 0 [(check_Expr.mk 2 0 0 []), (check_Expr.mk 1 (IntKind.i64.wrap v1) 0 [])]) (check_Cond.mk 0 (check_Expr.mk 0 0 0 []) (check_Expr.mk 0 0 0 []))), (flow_Edge.mk 0 1 5 0 0 0 (check_Expr.mk 0 0 0 []) (check_Cond.mk 3 (check_Expr.mk 2 0 0 []) (check_Expr.mk 2 0 1 [])))])))])] (by kernel_rfl) ?_
        refine ops_nil ?_
        obtain rfl := retE h
        refine lN ?_
        refine w_sub (env' := [(3, [.c (.box 0 0)]), (8, [.c (.box 3 0)]), (9, [.c (.pv (.int .i64 (IntKind.i64.wrap (4 + (IntKind.i64.wrap v2)))))]), (11, [.c (.pv (.sl (List.map e_flow_Edge [(flow_Edge.mk 0 1 1 1 0 0 (check_Expr.mk (IntKind.i64.wrap (4 + (IntKind.i64.wrap v2))) 0 0 [(check_Expr.mk 2 0 0 []), (check_Expr.mk 1 (IntKind.i64.wrap v1) 0 [])]) (check_Cond.mk 0 (check_Expr.mk 0 0 0 []) (check_Expr.mk 0 0 0 []))), (flow_Edge.mk 0 1 5 0 0 0 (check_Expr.mk 0 0 0 []) (check_Cond.mk 3 (check_Expr.mk 2 0 0 []) (check_Expr.mk 2 0 1 [])))])))]), (12, [.c (.pv (.int .i64 (IntKind.i64.wrap (x1 + 1))))])]) (sub_cons rfl (sub_cons rfl (sub_cons rfl (sub_cons rfl (sub_cons rfl sub_nil))))) ?_
        refine w_pad (.s (.s (.s (.s .z)))) ?_
        exact wkE (by kernel_rfl) (by kernel_rfl)
    · have h := iteF h k3
      refine exit_ ?_
      refine tX ?_
      obtain rfl := retE h
      refine lX ?_
      refine w_sub (env' := []) sub_nil ?_
      refine w_cut 0 rfl rfl rfl rfl ?_
      exact wkE (by kernel_rfl) (by kernel_rfl)
  · cases h
  · have h := elimR h
    refine then_ ?_
    refine seq_ ?_
    refine region_ ?_
    obtain ⟨v17, k26, h⟩ := bindE h
    refine C rfl rfl (fl_call rfl Try.call12 rfl (by kernel_rfl) (by kernel_rfl) (l14_steps_meets k26)) rfl ?_
    refine R tbok 1 [6] [(6, [.c (.pv (.bool v17))])] (by kernel_rfl) ?_
    refine ops_nil ?_
    refine then_ ?_
    refine ret_ ?_
    obtain rfl := retE h
    refine rwr (rw_ (.tmp rfl .nil) ?_)
    exact wkE (by kernel_rfl) (by kernel_rfl)
end Go.Proofs.Ytbebnddalipfhaa.Abs
