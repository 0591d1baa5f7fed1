/- Gb: the walks. -/
import Derived.Test.YtbebnddalipfhaaGbW2
namespace Go.Proofs.Ytbebnddalipfhaa.Abs
open Go Go.RowKit
set_option linter.unusedVariables false
set_option maxRecDepth 100000
set_option maxHeartbeats 4000000
theorem trans_stepper_send_meets {a0 : trans_stepper} {r : trans_stepper} (h : trans_stepper_send a0 = some r) : MeetsS Try.prog GG 45 [.c (.box 0 0)] [some (.box true 94 ([.pv (.sl (List.map e_check_Chan a0.f_w.S.Chans)), .pv (.sl (List.map e_flow_Graph a0.f_w.S.Graphs)), .pv (.sl (List.map e_i64 a0.f_w.S.Vars)), .pv (.sl (List.map e_queue_Elem a0.f_w.Elems)), .pv (.sl (List.map e_bool a0.f_w.Deaf)), .pv (.int .i64 a0.f_proc), .pv (.sl (List.map e_i64 a0.f_out)), .pv (.int .i64 a0.f_at), .pv (.int .i64 a0.f_e.From), .pv (.int .i64 a0.f_e.To), .pv (.int .i64 a0.f_e.Kind), .pv (.int .i64 a0.f_e.Var), .pv (.int .i64 a0.f_e.Chan), .pv (.int .i64 a0.f_e.Tag), .pv (.int .i64 a0.f_e.E.Kind), .pv (.int .i64 a0.f_e.E.Num), .pv (.int .i64 a0.f_e.E.Var), .pv (.sl (List.map e_check_Expr a0.f_e.E.Kids)), .pv (.int .i64 a0.f_e.C.Op), .pv (.int .i64 a0.f_e.C.L.Kind), .pv (.int .i64 a0.f_e.C.L.Num), .pv (.int .i64 a0.f_e.C.L.Var), .pv (.sl (List.map e_check_Expr a0.f_e.C.L.Kids)), .pv (.int .i64 a0.f_e.C.R.Kind), .pv (.int .i64 a0.f_e.C.R.Num), .pv (.int .i64 a0.f_e.C.R.Var), .pv (.sl (List.map e_check_Expr a0.f_e.C.R.Kids)), .pv (.bool a0.f_a.N.None), .pv (.sl (List.map e_itv_Itv a0.f_a.N.I)), .pv (.int .i64 a0.f_a.N.Z.N), .pv (.bool a0.f_a.N.Z.None)] ++ (bs (e_T42 a0.f_a.N.Z.D) ++ ([.row 1, .row 2, .pv (.int .i64 a0.f_sent.Chan), .pv (.int .i64 a0.f_sent.Tag), .pv (.int .i64 a0.f_sent.Vals.Lo), .pv (.int .i64 a0.f_sent.Vals.Hi)] ++ bs (e_T92 a0.f_errors))))), some (.row true false 53 2 (List.map e_itv_Itv a0.f_a.Counts)), some (.row true false 85 1 (List.map e_rule_Set a0.f_a.Rules))] [] [some (.box true 94 (bs (e_trans_stepper r))), none, none] := by
  refine meetsW_of (N := 121) r_trans_stepper_send o_trans_stepper_send r Try.func45 rfl rfl rfl (by dsimp only [argEnv]) rfl ?_
  unfold trans_stepper_send at h
  refine seq_ ?_
  refine region_ ?_
  refine R tbok 6 [2, 0] [(2, [.c (.pv (.int .i64 a0.f_e.Chan))]), (0, [.c (.box 0 0)])] (by kernel_rfl) ?_
  refine ops_nil ?_
  refine then_ ?_
  refine seq_ ?_
  refine drawn_ mixed ?_
  refine dl (t := 13) 0 [.c (.box 0 0)] rfl ?_
  refine dl (t := 14) 1 [.c (.box 0 0)] rfl ?_
  refine dl (t := 15) 2 [.c (.box 0 0)] rfl ?_
  refine dl (t := 16) 3 [.c (.box 0 0)] rfl ?_
  refine dl (t := 17) 4 [.c (.box 0 0)] rfl ?_
  refine dl (t := 18) 5 [.c (.pv (.sl (List.map e_check_Chan a0.f_w.S.Chans)))] rfl ?_
  refine dl (t := 19) 6 [.c (.pv (.int .i64 a0.f_e.Chan))] rfl ?_
  obtain ⟨v1, k1, h⟩ := bindE h
  refine dl (t := 20) 7 [.c (.ep [.int .i64 v1.Kind, .int .i64 v1.Size, .int .i64 v1.From, .int .i64 v1.To, .int .i64 v1.Tags, .sl (List.map e_sl33 v1.Rule)])] rfl ?_
  refine dl (t := 21) 8 [.agg [.pv (.int .i64 v1.Kind), .pv (.int .i64 v1.Size), .pv (.int .i64 v1.From), .pv (.int .i64 v1.To), .pv (.int .i64 v1.Tags), .pv (.sl (List.map e_sl33 v1.Rule))]] rfl ?_
  refine dl (t := 22) 9 [.c (.box 0 0)] rfl ?_
  refine dl (t := 23) 10 [.c (.box 0 0)] rfl ?_
  refine dl (t := 24) 11 [.c (.box 0 27)] rfl ?_
  refine dl (t := 25) 12 [.c (.box 0 80)] rfl ?_
  refine dl (t := 26) 13 [.c (.row 1)] rfl ?_
  refine dl (t := 27) 14 [.c (.pv (.int .i64 a0.f_e.Chan))] rfl ?_
  obtain ⟨v2, k2, h⟩ := bindE h
  refine dl (t := 28) 15 [.c (.rp 1 2 (a0.f_e.Chan).toNat 0)] rfl ?_
  refine dl (t := 29) 16 [.agg [.pv (.int .i64 v2.Lo), .pv (.int .i64 v2.Hi)]] rfl ?_
  refine db (t := 3) 17 3 [.c (.box 3 0)] ((.box true 73 [.pv (.int .i64 0), .pv (.int .i64 0), .pv (.int .i64 0), .pv (.int .i64 0), .pv (.int .i64 0), .emp])) rfl rfl (Push.eq (.s (.s (.s .z)))) ?_
  refine db (t := 4) 18 4 [.c (.box 4 0)] ((.box true 53 [.pv (.int .i64 0), .pv (.int .i64 0)])) rfl rfl (Push.eq (.s (.s (.s (.s .z))))) ?_
  refine d_store (wm [0, 1, 3, 7, 15, 31, 0, 127, 255, 0, 512, 1536, 3584, 7680, 0, 32256, 65024, 0, 0, 393727, 1048575]) 19 rfl (by kernel_rfl) (by kernel_rfl) (by kernel_rfl) (by kernel_rfl) (by kernel_rfl) (gi0 rfl) (owF (by kernel_rfl) (fo_b [4, 3] rfl rfl rfl (by kernel_rfl) (by kernel_rfl) (by kernel_rfl) (gi0 rfl) (bir_alloc rfl z53 rfl rfl) (by kernel_rfl) (by kernel_rfl)) (owF (by kernel_rfl) (fo_b [4, 3] rfl rfl rfl (by kernel_rfl) (by kernel_rfl) (by kernel_rfl) (gi0 rfl) (bir_alloc rfl z73 rfl rfl) (by kernel_rfl) (by kernel_rfl)) (oL [4, 3] rfl (by kernel_rfl) (fl_lt (lt_load_rpA (ys := [.pv (.int .i64 v2.Lo), .pv (.int .i64 v2.Hi)]) rfl ty53 rfl rfl (row_at k2) (Nat.le_of_ble_eq_true rfl) (by kernel_rfl))) (oL [4, 3] rfl (by kernel_rfl) (fl_lt (ia_row (e := e_itv_Itv) rfl u40 ty53 rfl rfl rfl k2)) (oE tbok [4, 3] 7 (by kernel_rfl) (oL [4, 3] rfl (by kernel_rfl) (fl_lt (ia_sl (e := e_check_Chan) (y := v1) rfl u37 ty73 rfl rfl k1 rfl)) (oE tbok [4, 3] 7 (by kernel_rfl) trivial))))))) rfl rfl ty73 rfl rfl rfl rfl rfl rfl (putE 6 (.all rfl) rfl (by decide)) (SetAt.eq (.s (.s (.s .z)))) ?_
  refine d_store (wm [0, 1, 3, 7, 15, 31, 0, 127, 255, 0, 512, 1536, 3584, 7680, 0, 32256, 65024, 0, 0, 393727, 1048575]) 20 rfl (by kernel_rfl) (by kernel_rfl) (by kernel_rfl) (by kernel_rfl) (by kernel_rfl) (gi0 rfl) (oN 3 (by kernel_rfl) (oL [4, 3] rfl (by kernel_rfl) (fl_lt (lt_load_rpA (ys := [.pv (.int .i64 v2.Lo), .pv (.int .i64 v2.Hi)]) rfl ty53 rfl rfl (row_at k2) (Nat.le_of_ble_eq_true rfl) (by kernel_rfl))) (oL [4, 3] rfl (by kernel_rfl) (fl_lt (ia_row (e := e_itv_Itv) rfl u40 ty53 rfl rfl rfl k2)) (oE tbok [4, 3] 6 (by kernel_rfl) (oN 9 (by kernel_rfl) trivial))))) rfl rfl ty53 rfl rfl rfl rfl rfl rfl (putE 2 (.all rfl) rfl (by decide)) (SetAt.eq (.s (.s (.s (.s .z))))) ?_
  refine d_endS (env2 := [(4, [.c (.box 4 0)]), (3, [.c (.box 3 0)]), (2, [.c (.pv (.int .i64 a0.f_e.Chan))]), (0, [.c (.box 0 0)])]) (wm [0, 1, 3, 7, 15, 31, 0, 127, 255, 0, 512, 1536, 3584, 7680, 0, 32256, 65024, 0, 0, 393727, 1048575]) (by kernel_rfl) (by kernel_rfl) (by kernel_rfl) (oN 21 (by kernel_rfl) trivial) (sub_cons rfl (sub_cons rfl (sub_cons rfl (sub_cons rfl sub_nil)))) wT ?_
  refine then_ ?_
  refine seq_ ?_
  refine region_ ?_
  refine R tbok 3 [32, 31, 30, 4, 3, 2, 0] [(32, [.agg [.pv (.int .i64 v2.Lo), .pv (.int .i64 v2.Hi)]]), (31, [.agg [.pv (.int .i64 v1.Kind), .pv (.int .i64 v1.Size), .pv (.int .i64 v1.From), .pv (.int .i64 v1.To), .pv (.int .i64 v1.Tags), .pv (.sl (List.map e_sl33 v1.Rule))]]), (30, [.c (.box 0 0)]), (4, [.c (.box 4 0)]), (3, [.c (.box 3 0)]), (2, [.c (.pv (.int .i64 a0.f_e.Chan))]), (0, [.c (.box 0 0)])] (by kernel_rfl) ?_
  obtain ⟨v3, k3, h⟩ := bindE h
  refine callS (env' := [(32, [.agg [.pv (.int .i64 v2.Lo), .pv (.int .i64 v2.Hi)]]), (31, [.agg [.pv (.int .i64 v1.Kind), .pv (.int .i64 v1.Size), .pv (.int .i64 v1.From), .pv (.int .i64 v1.To), .pv (.int .i64 v1.Tags), .pv (.sl (List.map e_sl33 v1.Rule))]]), (30, [.c (.box 0 0)]), (4, [.c (.box 4 0)]), (3, [.c (.box 3 0)]), (2, [.c (.pv (.int .i64 a0.f_e.Chan))]), (0, [.c (.box 0 0)])]) (argsX' := [.agg [.pv (.int .i64 v3.Lo), .pv (.int .i64 v3.Hi)]]) (st' := [some (.box true 94 ([.pv (.sl (List.map e_check_Chan a0.f_w.S.Chans)), .pv (.sl (List.map e_flow_Graph a0.f_w.S.Graphs)), .pv (.sl (List.map e_i64 a0.f_w.S.Vars)), .pv (.sl (List.map e_queue_Elem a0.f_w.Elems)), .pv (.sl (List.map e_bool a0.f_w.Deaf)), .pv (.int .i64 a0.f_proc), .pv (.sl (List.map e_i64 a0.f_out)), .pv (.int .i64 a0.f_at), .pv (.int .i64 a0.f_e.From), .pv (.int .i64 a0.f_e.To), .pv (.int .i64 a0.f_e.Kind), .pv (.int .i64 a0.f_e.Var), .pv (.int .i64 a0.f_e.Chan), .pv (.int .i64 a0.f_e.Tag), .pv (.int .i64 a0.f_e.E.Kind), .pv (.int .i64 a0.f_e.E.Num), .pv (.int .i64 a0.f_e.E.Var), .pv (.sl (List.map e_check_Expr a0.f_e.E.Kids)), .pv (.int .i64 a0.f_e.C.Op), .pv (.int .i64 a0.f_e.C.L.Kind), .pv (.int .i64 a0.f_e.C.L.Num), .pv (.int .i64 a0.f_e.C.L.Var), .pv (.sl (List.map e_check_Expr a0.f_e.C.L.Kids)), .pv (.int .i64 a0.f_e.C.R.Kind), .pv (.int .i64 a0.f_e.C.R.Num), .pv (.int .i64 a0.f_e.C.R.Var), .pv (.sl (List.map e_check_Expr a0.f_e.C.R.Kids)), .pv (.bool a0.f_a.N.None), .pv (.sl (List.map e_itv_Itv a0.f_a.N.I)), .pv (.int .i64 a0.f_a.N.Z.N), .pv (.bool a0.f_a.N.Z.None)] ++ (bs (e_T42 a0.f_a.N.Z.D) ++ ([.row 1, .row 2, .pv (.int .i64 a0.f_sent.Chan), .pv (.int .i64 a0.f_sent.Tag), .pv (.int .i64 a0.f_sent.Vals.Lo), .pv (.int .i64 a0.f_sent.Vals.Hi)] ++ bs (e_T92 a0.f_errors))))), some (.row true false 53 2 (List.map e_itv_Itv a0.f_a.Counts)), some (.row true false 85 1 (List.map e_rule_Set a0.f_a.Rules)), some (.box true 73 [.pv (.int .i64 v1.Kind), .pv (.int .i64 v1.Size), .pv (.int .i64 v1.From), .pv (.int .i64 v1.To), .pv (.int .i64 v1.Tags), .pv (.sl (List.map e_sl33 v1.Rule))]), some (.box true 53 [.pv (.int .i64 v2.Lo), .pv (.int .i64 v2.Hi)])]) [0, 1, 2] [0, 1, 2] rfl rfl rfl rfl Try.call61 rfl rfl (by kernel_rfl) (by kernel_rfl) (trans_stepper_room_meets k3) (by kernel_rfl) (by kernel_rfl) (by kernel_rfl) ?_
  refine B rfl rfl (bir_alloc rfl z53 rfl rfl) rfl rfl (.s (.s (.s (.s (.s .z))))) ?_
  refine S rfl rfl rfl ty53 (by decide) rfl rfl rfl rfl rfl (.all rfl) (.s (.s (.s (.s (.s .z))))) ?_
  refine ops_nil ?_
  refine then_ ?_
  refine seq_ ?_
  refine seq_ ?_
  refine jn_ (fun (j1 : Bool) => (⟨121, 3, [(0, [.c (.box 0 0)]), (2, [.c (.pv (.int .i64 a0.f_e.Chan))]), (3, [.c (.box 3 0)]), (4, [.c (.box 4 0)]), (5, [.c (.box 5 0)]), (40, [.c (.pv (.bool j1))])], [some (.box true 94 ([.pv (.sl (List.map e_check_Chan a0.f_w.S.Chans)), .pv (.sl (List.map e_flow_Graph a0.f_w.S.Graphs)), .pv (.sl (List.map e_i64 a0.f_w.S.Vars)), .pv (.sl (List.map e_queue_Elem a0.f_w.Elems)), .pv (.sl (List.map e_bool a0.f_w.Deaf)), .pv (.int .i64 a0.f_proc), .pv (.sl (List.map e_i64 a0.f_out)), .pv (.int .i64 a0.f_at), .pv (.int .i64 a0.f_e.From), .pv (.int .i64 a0.f_e.To), .pv (.int .i64 a0.f_e.Kind), .pv (.int .i64 a0.f_e.Var), .pv (.int .i64 a0.f_e.Chan), .pv (.int .i64 a0.f_e.Tag), .pv (.int .i64 a0.f_e.E.Kind), .pv (.int .i64 a0.f_e.E.Num), .pv (.int .i64 a0.f_e.E.Var), .pv (.sl (List.map e_check_Expr a0.f_e.E.Kids)), .pv (.int .i64 a0.f_e.C.Op), .pv (.int .i64 a0.f_e.C.L.Kind), .pv (.int .i64 a0.f_e.C.L.Num), .pv (.int .i64 a0.f_e.C.L.Var), .pv (.sl (List.map e_check_Expr a0.f_e.C.L.Kids)), .pv (.int .i64 a0.f_e.C.R.Kind), .pv (.int .i64 a0.f_e.C.R.Num), .pv (.int .i64 a0.f_e.C.R.Var), .pv (.sl (List.map e_check_Expr a0.f_e.C.R.Kids)), .pv (.bool a0.f_a.N.None), .pv (.sl (List.map e_itv_Itv a0.f_a.N.I)), .pv (.int .i64 a0.f_a.N.Z.N), .pv (.bool a0.f_a.N.Z.None)] ++ (bs (e_T42 a0.f_a.N.Z.D) ++ ([.row 1, .row 2, .pv (.int .i64 a0.f_sent.Chan), .pv (.int .i64 a0.f_sent.Tag), .pv (.int .i64 a0.f_sent.Vals.Lo), .pv (.int .i64 a0.f_sent.Vals.Hi)] ++ bs (e_T92 a0.f_errors))))), some (.row true false 53 2 (List.map e_itv_Itv a0.f_a.Counts)), some (.row true false 85 1 (List.map e_rule_Set a0.f_a.Rules)), some (.box true 73 [.pv (.int .i64 v1.Kind), .pv (.int .i64 v1.Size), .pv (.int .i64 v1.From), .pv (.int .i64 v1.To), .pv (.int .i64 v1.Tags), .pv (.sl (List.map e_sl33 v1.Rule))]), some (.box true 53 [.pv (.int .i64 v2.Lo), .pv (.int .i64 v2.Hi)]), some (.box true 53 [.pv (.int .i64 v3.Lo), .pv (.int .i64 v3.Hi)])]⟩ : Sx)) h wT (fun o h => ?_) (fun j1 h => ?_)
  · refine region_ ?_
    refine R tbok 4 [37, 5, 4, 3, 2, 0] [(37, [.c (.pv (.bool (v1.Kind == 0)))]), (5, [.c (.box 5 0)]), (4, [.c (.box 4 0)]), (3, [.c (.box 3 0)]), (2, [.c (.pv (.int .i64 a0.f_e.Chan))]), (0, [.c (.box 0 0)])] (by kernel_rfl) ?_
    refine (tf (v1.Kind == 0)).elim (fun k4 => ?_) (fun k4 => ?_)
    · have h := iteT h k4
      refine Lg rfl rfl rfl k4 rfl (lt_load_boxA (ys := [.pv (.int .i64 v3.Lo), .pv (.int .i64 v3.Hi)]) rfl ty53 rfl rfl (by kernel_rfl) (by kernel_rfl)) rfl ?_
      obtain ⟨v4, k5, h⟩ := bindE h
      refine Hg rfl rfl rfl k4 rfl rfl (op_fl rfl rfl (fl_call rfl Try.call31 rfl (by kernel_rfl) (by kernel_rfl) (itv_Empty_meets k5)) ?_)
      refine L rfl rfl (lt_pickT rfl rfl k4 rfl) rfl ?_
      refine ops_nil ?_
      obtain rfl := retE h
      refine mN ?_
      refine w_sub (env' := [(0, [.c (.box 0 0)]), (2, [.c (.pv (.int .i64 a0.f_e.Chan))]), (3, [.c (.box 3 0)]), (4, [.c (.box 4 0)]), (5, [.c (.box 5 0)]), (40, [.c (.pv (.bool v4))])]) (sub_cons rfl (sub_cons rfl (sub_cons rfl (sub_cons rfl (sub_cons rfl (sub_cons rfl sub_nil)))))) ?_
      exact wkE (by kernel_rfl) (by kernel_rfl)
    · have h := iteF h k4
      refine Ls0 rfl rfl rfl k4 rfl rfl ?_
      refine Ls0 rfl rfl rfl k4 rfl rfl ?_
      refine L rfl rfl (lt_pickF rfl rfl k4 rfl) rfl ?_
      refine ops_nil ?_
      obtain rfl := retE h
      refine mN ?_
      refine w_sub (env' := [(0, [.c (.box 0 0)]), (2, [.c (.pv (.int .i64 a0.f_e.Chan))]), (3, [.c (.box 3 0)]), (4, [.c (.box 4 0)]), (5, [.c (.box 5 0)]), (40, [.c (.pv (.bool false))])]) (sub_cons rfl (sub_cons rfl (sub_cons rfl (sub_cons rfl (sub_cons rfl (sub_cons rfl sub_nil)))))) ?_
      exact wkE (by kernel_rfl) (by kernel_rfl)
  · refine then_ ?_
    refine cond_ (b := j1) rfl (fun k6 => ?_) (fun k6 => ?_)
    · have h := iteT h k6
      refine seq_ ?_
      refine region_ ?_
      refine R tbok 1 [41, 0, 2, 3, 4, 5] [(41, [.c (.box 0 0)]), (0, [.c (.box 0 0)]), (2, [.c (.pv (.int .i64 a0.f_e.Chan))]), (3, [.c (.box 3 0)]), (4, [.c (.box 4 0)]), (5, [.c (.box 5 0)])] (by kernel_rfl) ?_
      obtain ⟨v5, k7, h⟩ := bindE h
      refine callS (env' := [(41, [.c (.box 0 0)]), (0, [.c (.box 0 0)]), (2, [.c (.pv (.int .i64 a0.f_e.Chan))]), (3, [.c (.box 3 0)]), (4, [.c (.box 4 0)]), (5, [.c (.box 5 0)])]) (argsX' := []) (st' := [some (.box true 94 (bs (e_trans_stepper v5))), none, none, some (.box true 73 [.pv (.int .i64 v1.Kind), .pv (.int .i64 v1.Size), .pv (.int .i64 v1.From), .pv (.int .i64 v1.To), .pv (.int .i64 v1.Tags), .pv (.sl (List.map e_sl33 v1.Rule))]), some (.box true 53 [.pv (.int .i64 v2.Lo), .pv (.int .i64 v2.Hi)]), some (.box true 53 [.pv (.int .i64 v3.Lo), .pv (.int .i64 v3.Hi)])]) [0, 1, 2] [] rfl rfl rfl rfl Try.call47 rfl rfl (by kernel_rfl) (by kernel_rfl) (trans_stepper_stops_meets k7) (by kernel_rfl) (by kernel_rfl) (by kernel_rfl) ?_
      refine ops_nil ?_
      refine then_ ?_
      refine ret_ ?_
      obtain rfl := retE h
      refine tR (rwr (rw_ .nil ?_))
      refine w_none 3 (.s (.s (.s .z))) ?_
      refine w_none 4 (.s (.s (.s (.s .z)))) ?_
      refine w_none 5 (.s (.s (.s (.s (.s .z))))) ?_
      refine w_cut 3 rfl rfl rfl rfl ?_
      exact wkE (by kernel_rfl) (by kernel_rfl)
    · have h := iteF h k6
      refine skip_ ?_
      refine then_ ?_
      refine seq_ ?_
      refine drawn_ mixed ?_
      refine dl (t := 44) 0 [.c (.box 0 0)] rfl ?_
      refine dl (t := 45) 1 [.c (.box 0 0)] rfl ?_
      refine dl (t := 46) 2 [.c (.box 0 8)] rfl ?_
      refine dl (t := 47) 3 [.c (.box 0 14)] rfl ?_
      refine dl (t := 48) 4 [.agg [.pv (.int .i64 a0.f_e.E.Kind), .pv (.int .i64 a0.f_e.E.Num), .pv (.int .i64 a0.f_e.E.Var), .pv (.sl (List.map e_check_Expr a0.f_e.E.Kids))]] rfl ?_
      refine dl (t := 49) 5 [.c (.box 0 0)] rfl ?_
      refine dl (t := 50) 6 [.c (.box 0 0)] rfl ?_
      refine dl (t := 51) 7 [.c (.box 0 27)] rfl ?_
      refine dl (t := 52) 8 [.c (.box 0 27)] rfl ?_
      refine dl (t := 53) 9 [.agg (bs (e_num_Num a0.f_a.N))] rfl ?_
      obtain ⟨v7, k9, h⟩ := bindE h
      refine dl (t := 54) 10 [.agg [.pv (.int .i64 v7.1.Lo), .pv (.int .i64 v7.1.Hi)], .agg [.pv (.bool v7.2.Overflow), .pv (.bool v7.2.DivZero)]] rfl ?_
      refine dl (t := 43) 11 [.agg [.pv (.int .i64 v7.1.Lo), .pv (.int .i64 v7.1.Hi)], .agg [.pv (.bool v7.2.Overflow), .pv (.bool v7.2.DivZero)]] rfl ?_
      refine dl (t := 55) 12 [.agg [.pv (.int .i64 v7.1.Lo), .pv (.int .i64 v7.1.Hi)]] rfl ?_
      refine dl (t := 56) 13 [.agg [.pv (.bool v7.2.Overflow), .pv (.bool v7.2.DivZero)]] rfl ?_
      refine db (t := 6) 14 6 [.c (.box 6 0)] ((.box true 53 [.pv (.int .i64 0), .pv (.int .i64 0)])) rfl rfl (Push.eq (.s (.s (.s (.s (.s (.s .z))))))) ?_
      refine db (t := 7) 15 7 [.c (.box 7 0)] ((.box true 120 [.pv (.bool false), .pv (.bool false)])) rfl rfl (Push.eq (.s (.s (.s (.s (.s (.s (.s .z)))))))) ?_
      refine d_store (wm [0, 1, 3, 7, 15, 0, 32, 96, 224, 480, 1023, 2047, 4095, 4095, 0, 0, 57343, 131071]) 16 rfl (by kernel_rfl) (by kernel_rfl) (by kernel_rfl) (by kernel_rfl) (by kernel_rfl) (gi0 rfl) (owF (by kernel_rfl) (fo_b [7, 6] rfl rfl rfl (by kernel_rfl) (by kernel_rfl) (by kernel_rfl) (gi0 rfl) (bir_alloc rfl z120 rfl rfl) (by kernel_rfl) (by kernel_rfl)) (owF (by kernel_rfl) (fo_b [7, 6] rfl rfl rfl (by kernel_rfl) (by kernel_rfl) (by kernel_rfl) (gi0 rfl) (bir_alloc rfl z53 rfl rfl) (by kernel_rfl) (by kernel_rfl)) (oE tbok [7, 6] 3 (by kernel_rfl) (oL [7, 6] rfl (by kernel_rfl) (fl_call rfl Try.call62 rfl (by kernel_rfl) (by kernel_rfl) (eval_Eval_meets k9)) (oE tbok [7, 6] 10 (by kernel_rfl) trivial))))) rfl rfl ty53 rfl rfl rfl rfl rfl rfl (putE 2 (.all rfl) rfl (by decide)) (SetAt.eq (.s (.s (.s (.s (.s (.s .z))))))) ?_
      refine d_store (wm [0, 1, 3, 7, 15, 0, 32, 96, 224, 480, 1023, 2047, 4095, 4095, 0, 0, 57343, 131071]) 17 rfl (by kernel_rfl) (by kernel_rfl) (by kernel_rfl) (by kernel_rfl) (by kernel_rfl) (gi0 rfl) (oN 3 (by kernel_rfl) (oE tbok [7, 6] 1 (by kernel_rfl) (oN 13 (by kernel_rfl) trivial))) rfl rfl ty120 rfl rfl rfl rfl rfl rfl (putE 2 (.all rfl) rfl (by decide)) (SetAt.eq (.s (.s (.s (.s (.s (.s (.s .z)))))))) ?_
      refine d_endS (env2 := [(7, [.c (.box 7 0)]), (6, [.c (.box 6 0)]), (0, [.c (.box 0 0)]), (2, [.c (.pv (.int .i64 a0.f_e.Chan))]), (3, [.c (.box 3 0)]), (4, [.c (.box 4 0)]), (5, [.c (.box 5 0)])]) (wm [0, 1, 3, 7, 15, 0, 32, 96, 224, 480, 1023, 2047, 4095, 4095, 0, 0, 57343, 131071]) (by kernel_rfl) (by kernel_rfl) (by kernel_rfl) (oN 18 (by kernel_rfl) trivial) (sub_cons rfl (sub_cons rfl (sub_cons rfl (sub_cons rfl (sub_cons rfl (sub_cons rfl (sub_cons rfl sub_nil))))))) wT ?_
      refine then_ ?_
      refine seq_ ?_
      refine region_ ?_
      refine R tbok 2 [58, 57, 6, 0, 2, 3, 4, 5] [(58, [.agg [.pv (.bool v7.2.Overflow), .pv (.bool v7.2.DivZero)]]), (57, [.c (.box 0 0)]), (6, [.c (.box 6 0)]), (0, [.c (.box 0 0)]), (2, [.c (.pv (.int .i64 a0.f_e.Chan))]), (3, [.c (.box 3 0)]), (4, [.c (.box 4 0)]), (5, [.c (.box 5 0)])] (by kernel_rfl) ?_
      obtain ⟨v8, k10, h⟩ := bindE h
      refine callS (env' := [(58, [.agg [.pv (.bool v7.2.Overflow), .pv (.bool v7.2.DivZero)]]), (57, [.c (.box 0 0)]), (6, [.c (.box 6 0)]), (0, [.c (.box 0 0)]), (2, [.c (.pv (.int .i64 a0.f_e.Chan))]), (3, [.c (.box 3 0)]), (4, [.c (.box 4 0)]), (5, [.c (.box 5 0)])]) (argsX' := []) (st' := [some (.box true 94 ([.pv (.sl (List.map e_check_Chan v8.f_w.S.Chans)), .pv (.sl (List.map e_flow_Graph v8.f_w.S.Graphs)), .pv (.sl (List.map e_i64 v8.f_w.S.Vars)), .pv (.sl (List.map e_queue_Elem v8.f_w.Elems)), .pv (.sl (List.map e_bool v8.f_w.Deaf)), .pv (.int .i64 v8.f_proc), .pv (.sl (List.map e_i64 v8.f_out)), .pv (.int .i64 v8.f_at), .pv (.int .i64 v8.f_e.From), .pv (.int .i64 v8.f_e.To), .pv (.int .i64 v8.f_e.Kind), .pv (.int .i64 v8.f_e.Var), .pv (.int .i64 v8.f_e.Chan), .pv (.int .i64 v8.f_e.Tag), .pv (.int .i64 v8.f_e.E.Kind), .pv (.int .i64 v8.f_e.E.Num), .pv (.int .i64 v8.f_e.E.Var), .pv (.sl (List.map e_check_Expr v8.f_e.E.Kids)), .pv (.int .i64 v8.f_e.C.Op), .pv (.int .i64 v8.f_e.C.L.Kind), .pv (.int .i64 v8.f_e.C.L.Num), .pv (.int .i64 v8.f_e.C.L.Var), .pv (.sl (List.map e_check_Expr v8.f_e.C.L.Kids)), .pv (.int .i64 v8.f_e.C.R.Kind), .pv (.int .i64 v8.f_e.C.R.Num), .pv (.int .i64 v8.f_e.C.R.Var), .pv (.sl (List.map e_check_Expr v8.f_e.C.R.Kids)), .pv (.bool v8.f_a.N.None), .pv (.sl (List.map e_itv_Itv v8.f_a.N.I)), .pv (.int .i64 v8.f_a.N.Z.N), .pv (.bool v8.f_a.N.Z.None)] ++ (bs (e_T42 v8.f_a.N.Z.D) ++ ([.row 1, .row 2, .pv (.int .i64 v8.f_sent.Chan), .pv (.int .i64 v8.f_sent.Tag), .pv (.int .i64 v8.f_sent.Vals.Lo), .pv (.int .i64 v8.f_sent.Vals.Hi)] ++ bs (e_T92 v8.f_errors))))), some (.row true true 53 2 (List.map e_itv_Itv v8.f_a.Counts)), some (.row true true 85 1 (List.map e_rule_Set v8.f_a.Rules)), some (.box true 73 [.pv (.int .i64 v1.Kind), .pv (.int .i64 v1.Size), .pv (.int .i64 v1.From), .pv (.int .i64 v1.To), .pv (.int .i64 v1.Tags), .pv (.sl (List.map e_sl33 v1.Rule))]), some (.box true 53 [.pv (.int .i64 v2.Lo), .pv (.int .i64 v2.Hi)]), some (.box true 53 [.pv (.int .i64 v3.Lo), .pv (.int .i64 v3.Hi)]), some (.box true 53 [.pv (.int .i64 v7.1.Lo), .pv (.int .i64 v7.1.Hi)]), some (.box true 120 [.pv (.bool v7.2.Overflow), .pv (.bool v7.2.DivZero)])]) [0, 1, 2] [] rfl rfl rfl rfl Try.call57 rfl rfl (by kernel_rfl) (by kernel_rfl) (trans_stepper_may_meets k10) (by kernel_rfl) (by kernel_rfl) (by kernel_rfl) ?_
      refine ops_nil ?_
      refine then_ ?_
      refine seq_ ?_
      refine seq_ ?_
      refine jn_ (fun (j2 : (Bool × trans_stepper × (List itv_Itv) × (List Int))) => (⟨121, 3, [(0, [.c (.box 0 0)]), (2, [.c (.pv (.int .i64 a0.f_e.Chan))]), (3, [.c (.box 3 0)]), (4, [.c (.box 4 0)]), (5, [.c (.box 5 0)]), (6, [.c (.box 6 0)]), (67, [.c (.pv (.bool j2.1))])], [some (.box true 94 ([.pv (.sl (List.map e_check_Chan j2.2.1.f_w.S.Chans)), .pv (.sl (List.map e_flow_Graph j2.2.1.f_w.S.Graphs)), .pv (.sl (List.map e_i64 j2.2.1.f_w.S.Vars)), .pv (.sl (List.map e_queue_Elem j2.2.1.f_w.Elems)), .pv (.sl (List.map e_bool j2.2.1.f_w.Deaf)), .pv (.int .i64 j2.2.1.f_proc), .pv (.sl (List.map e_i64 j2.2.1.f_out)), .pv (.int .i64 j2.2.1.f_at), .pv (.int .i64 j2.2.1.f_e.From), .pv (.int .i64 j2.2.1.f_e.To), .pv (.int .i64 j2.2.1.f_e.Kind), .pv (.int .i64 j2.2.1.f_e.Var), .pv (.int .i64 j2.2.1.f_e.Chan), .pv (.int .i64 j2.2.1.f_e.Tag), .pv (.int .i64 j2.2.1.f_e.E.Kind), .pv (.int .i64 j2.2.1.f_e.E.Num), .pv (.int .i64 j2.2.1.f_e.E.Var), .pv (.sl (List.map e_check_Expr j2.2.1.f_e.E.Kids)), .pv (.int .i64 j2.2.1.f_e.C.Op), .pv (.int .i64 j2.2.1.f_e.C.L.Kind), .pv (.int .i64 j2.2.1.f_e.C.L.Num), .pv (.int .i64 j2.2.1.f_e.C.L.Var), .pv (.sl (List.map e_check_Expr j2.2.1.f_e.C.L.Kids)), .pv (.int .i64 j2.2.1.f_e.C.R.Kind), .pv (.int .i64 j2.2.1.f_e.C.R.Num), .pv (.int .i64 j2.2.1.f_e.C.R.Var), .pv (.sl (List.map e_check_Expr j2.2.1.f_e.C.R.Kids)), .pv (.bool j2.2.1.f_a.N.None), .pv (.sl (List.map e_itv_Itv j2.2.1.f_a.N.I)), .pv (.int .i64 j2.2.1.f_a.N.Z.N), .pv (.bool j2.2.1.f_a.N.Z.None)] ++ (bs (e_T42 j2.2.1.f_a.N.Z.D) ++ ([.row 1, .row 2, .pv (.int .i64 j2.2.1.f_sent.Chan), .pv (.int .i64 j2.2.1.f_sent.Tag), .pv (.int .i64 j2.2.1.f_sent.Vals.Lo), .pv (.int .i64 j2.2.1.f_sent.Vals.Hi)] ++ bs (e_T92 j2.2.1.f_errors))))), some (.row true true 53 2 (List.map e_itv_Itv j2.2.2.1)), some (.row true true 85 1 (List.map e_rule_Set j2.2.2.2)), some (.box true 73 [.pv (.int .i64 v1.Kind), .pv (.int .i64 v1.Size), .pv (.int .i64 v1.From), .pv (.int .i64 v1.To), .pv (.int .i64 v1.Tags), .pv (.sl (List.map e_sl33 v1.Rule))]), some (.box true 53 [.pv (.int .i64 v2.Lo), .pv (.int .i64 v2.Hi)]), some (.box true 53 [.pv (.int .i64 v3.Lo), .pv (.int .i64 v3.Hi)]), some (.box true 53 [.pv (.int .i64 v7.1.Lo), .pv (.int .i64 v7.1.Hi)])]⟩ : Sx)) h wT (fun o h => ?_) (fun j2 h => ?_)
      · refine region_ ?_
        refine R tbok 1 [60, 6, 0, 2, 3, 4, 5] [(60, [.agg [.pv (.int .i64 v7.1.Lo), .pv (.int .i64 v7.1.Hi)]]), (6, [.c (.box 6 0)]), (0, [.c (.box 0 0)]), (2, [.c (.pv (.int .i64 a0.f_e.Chan))]), (3, [.c (.box 3 0)]), (4, [.c (.box 4 0)]), (5, [.c (.box 5 0)])] (by kernel_rfl) ?_
        obtain ⟨v9, k11, h⟩ := bindE h
        refine C rfl rfl (fl_call rfl Try.call31 rfl (by kernel_rfl) (by kernel_rfl) (itv_Empty_meets k11)) rfl ?_
        refine R tbok 1 [62, 6, 0, 2, 3, 4, 5] [(62, [.c (.pv (.bool v9))]), (6, [.c (.box 6 0)]), (0, [.c (.box 0 0)]), (2, [.c (.pv (.int .i64 a0.f_e.Chan))]), (3, [.c (.box 3 0)]), (4, [.c (.box 4 0)]), (5, [.c (.box 5 0)])] (by kernel_rfl) ?_
        refine (tf v9).elim (fun k12 => ?_) (fun k12 => ?_)
        · have h := iteT h k12
          refine Ls0 rfl rfl rfl k12 rfl rfl ?_
          refine Ls0 rfl rfl rfl k12 rfl rfl ?_
          refine Ls0 rfl rfl rfl k12 rfl rfl ?_
          refine Ls0 rfl rfl rfl k12 rfl rfl ?_
          refine L rfl rfl (lt_pickT rfl rfl k12 rfl) rfl ?_
          refine ops_nil ?_
          obtain rfl := retE h
          refine mN ?_
          refine w_sub (env' := [(0, [.c (.box 0 0)]), (2, [.c (.pv (.int .i64 a0.f_e.Chan))]), (3, [.c (.box 3 0)]), (4, [.c (.box 4 0)]), (5, [.c (.box 5 0)]), (6, [.c (.box 6 0)]), (67, [.c (.pv (.bool true))])]) (sub_cons rfl (sub_cons rfl (sub_cons rfl (sub_cons rfl (sub_cons rfl (sub_cons rfl (sub_cons rfl sub_nil))))))) ?_
          refine w_cut 7 rfl rfl rfl rfl ?_
          exact wkE (by kernel_rfl) (by kernel_rfl)
        · have h := iteF h k12
          refine Lg rfl rfl rfl k12 rfl (lt_move rfl rfl) rfl ?_
          refine Lg rfl rfl rfl k12 rfl (lt_load_boxA (ys := [.pv (.int .i64 v1.Kind), .pv (.int .i64 v1.Size), .pv (.int .i64 v1.From), .pv (.int .i64 v1.To), .pv (.int .i64 v1.Tags), .pv (.sl (List.map e_sl33 v1.Rule))]) rfl ty73 rfl rfl (by kernel_rfl) (by kernel_rfl)) rfl ?_
          obtain ⟨v10, k13, h⟩ := bindE h
          refine Hg rfl rfl rfl k12 rfl rfl (callO (env' := [(64, [.agg [.pv (.int .i64 v1.Kind), .pv (.int .i64 v1.Size), .pv (.int .i64 v1.From), .pv (.int .i64 v1.To), .pv (.int .i64 v1.Tags), .pv (.sl (List.map e_sl33 v1.Rule))]]), (63, [.c (.box 0 0)]), (62, [.c (.pv (.bool v9))]), (6, [.c (.box 6 0)]), (0, [.c (.box 0 0)]), (2, [.c (.pv (.int .i64 a0.f_e.Chan))]), (3, [.c (.box 3 0)]), (4, [.c (.box 4 0)]), (5, [.c (.box 5 0)])]) (argsX' := [.c (.pv (.bool v10.2))]) (st' := [some (.box true 94 ([.pv (.sl (List.map e_check_Chan v10.1.f_w.S.Chans)), .pv (.sl (List.map e_flow_Graph v10.1.f_w.S.Graphs)), .pv (.sl (List.map e_i64 v10.1.f_w.S.Vars)), .pv (.sl (List.map e_queue_Elem v10.1.f_w.Elems)), .pv (.sl (List.map e_bool v10.1.f_w.Deaf)), .pv (.int .i64 v10.1.f_proc), .pv (.sl (List.map e_i64 v10.1.f_out)), .pv (.int .i64 v10.1.f_at), .pv (.int .i64 v10.1.f_e.From), .pv (.int .i64 v10.1.f_e.To), .pv (.int .i64 v10.1.f_e.Kind), .pv (.int .i64 v10.1.f_e.Var), .pv (.int .i64 v10.1.f_e.Chan), .pv (.int .i64 v10.1.f_e.Tag), .pv (.int .i64 v10.1.f_e.E.Kind), .pv (.int .i64 v10.1.f_e.E.Num), .pv (.int .i64 v10.1.f_e.E.Var), .pv (.sl (List.map e_check_Expr v10.1.f_e.E.Kids)), .pv (.int .i64 v10.1.f_e.C.Op), .pv (.int .i64 v10.1.f_e.C.L.Kind), .pv (.int .i64 v10.1.f_e.C.L.Num), .pv (.int .i64 v10.1.f_e.C.L.Var), .pv (.sl (List.map e_check_Expr v10.1.f_e.C.L.Kids)), .pv (.int .i64 v10.1.f_e.C.R.Kind), .pv (.int .i64 v10.1.f_e.C.R.Num), .pv (.int .i64 v10.1.f_e.C.R.Var), .pv (.sl (List.map e_check_Expr v10.1.f_e.C.R.Kids)), .pv (.bool v10.1.f_a.N.None), .pv (.sl (List.map e_itv_Itv v10.1.f_a.N.I)), .pv (.int .i64 v10.1.f_a.N.Z.N), .pv (.bool v10.1.f_a.N.Z.None)] ++ (bs (e_T42 v10.1.f_a.N.Z.D) ++ ([.row 1, .row 2, .pv (.int .i64 v10.1.f_sent.Chan), .pv (.int .i64 v10.1.f_sent.Tag), .pv (.int .i64 v10.1.f_sent.Vals.Lo), .pv (.int .i64 v10.1.f_sent.Vals.Hi)] ++ bs (e_T92 v10.1.f_errors))))), some (.row true true 53 2 (List.map e_itv_Itv v10.1.f_a.Counts)), some (.row true true 85 1 (List.map e_rule_Set v10.1.f_a.Rules)), some (.box true 73 [.pv (.int .i64 v1.Kind), .pv (.int .i64 v1.Size), .pv (.int .i64 v1.From), .pv (.int .i64 v1.To), .pv (.int .i64 v1.Tags), .pv (.sl (List.map e_sl33 v1.Rule))]), some (.box true 53 [.pv (.int .i64 v2.Lo), .pv (.int .i64 v2.Hi)]), some (.box true 53 [.pv (.int .i64 v3.Lo), .pv (.int .i64 v3.Hi)]), some (.box true 53 [.pv (.int .i64 v7.1.Lo), .pv (.int .i64 v7.1.Hi)]), some (.box true 120 [.pv (.bool v7.2.Overflow), .pv (.bool v7.2.DivZero)])]) [0, 1, 2] [] rfl rfl rfl Try.call63 rfl rfl (by kernel_rfl) (by kernel_rfl) (trans_stepper_ruled_meets k13) (by kernel_rfl) (by kernel_rfl) (by kernel_rfl) ?_)
          refine Lg rfl rfl rfl k12 rfl (lt_not rfl rfl) rfl ?_
          refine L rfl rfl (lt_pickF rfl rfl k12 rfl) rfl ?_
          refine ops_nil ?_
          obtain rfl := retE h
          refine mN ?_
          refine w_sub (env' := [(0, [.c (.box 0 0)]), (2, [.c (.pv (.int .i64 a0.f_e.Chan))]), (3, [.c (.box 3 0)]), (4, [.c (.box 4 0)]), (5, [.c (.box 5 0)]), (6, [.c (.box 6 0)]), (67, [.c (.pv (.bool (!v10.2)))])]) (sub_cons rfl (sub_cons rfl (sub_cons rfl (sub_cons rfl (sub_cons rfl (sub_cons rfl (sub_cons rfl sub_nil))))))) ?_
          refine w_cut 7 rfl rfl rfl rfl ?_
          exact wkE (by kernel_rfl) (by kernel_rfl)
      · refine then_ ?_
        refine cond_ (b := j2.1) rfl (fun k14 => ?_) (fun k14 => ?_)
        · have h := iteT h k14
          refine seq_ ?_
          refine region_ ?_
          refine R tbok 1 [68, 0, 2, 3, 4, 5, 6] [(68, [.c (.box 0 0)]), (0, [.c (.box 0 0)]), (2, [.c (.pv (.int .i64 a0.f_e.Chan))]), (3, [.c (.box 3 0)]), (4, [.c (.box 4 0)]), (5, [.c (.box 5 0)]), (6, [.c (.box 6 0)])] (by kernel_rfl) ?_
          obtain ⟨v11, k15, h⟩ := bindE h
          refine callS (env' := [(68, [.c (.box 0 0)]), (0, [.c (.box 0 0)]), (2, [.c (.pv (.int .i64 a0.f_e.Chan))]), (3, [.c (.box 3 0)]), (4, [.c (.box 4 0)]), (5, [.c (.box 5 0)]), (6, [.c (.box 6 0)])]) (argsX' := []) (st' := [some (.box true 94 (bs (e_trans_stepper v11))), none, none, some (.box true 73 [.pv (.int .i64 v1.Kind), .pv (.int .i64 v1.Size), .pv (.int .i64 v1.From), .pv (.int .i64 v1.To), .pv (.int .i64 v1.Tags), .pv (.sl (List.map e_sl33 v1.Rule))]), some (.box true 53 [.pv (.int .i64 v2.Lo), .pv (.int .i64 v2.Hi)]), some (.box true 53 [.pv (.int .i64 v3.Lo), .pv (.int .i64 v3.Hi)]), some (.box true 53 [.pv (.int .i64 v7.1.Lo), .pv (.int .i64 v7.1.Hi)])]) [0, 1, 2] [] rfl rfl rfl rfl Try.call47 rfl rfl (by kernel_rfl) (by kernel_rfl) (trans_stepper_stops_meets k15) (by kernel_rfl) (by kernel_rfl) (by kernel_rfl) ?_
          refine ops_nil ?_
          refine then_ ?_
          refine ret_ ?_
          obtain rfl := retE h
          refine tR (rwr (rw_ .nil ?_))
          refine w_none 3 (.s (.s (.s .z))) ?_
          refine w_none 4 (.s (.s (.s (.s .z)))) ?_
          refine w_none 5 (.s (.s (.s (.s (.s .z))))) ?_
          refine w_none 6 (.s (.s (.s (.s (.s (.s .z)))))) ?_
          refine w_cut 3 rfl rfl rfl rfl ?_
          exact wkE (by kernel_rfl) (by kernel_rfl)
        · have h := iteF h k14
          refine skip_ ?_
          refine then_ ?_
          refine seq_ ?_
          refine jn_ (fun (j3 : trans_stepper) => (⟨121, 3, [(0, [.c (.box 0 0)]), (2, [.c (.pv (.int .i64 a0.f_e.Chan))]), (3, [.c (.box 3 0)]), (5, [.c (.box 5 0)]), (6, [.c (.box 6 0)])], [some (.box true 94 ([.pv (.sl (List.map e_check_Chan j3.f_w.S.Chans)), .pv (.sl (List.map e_flow_Graph j3.f_w.S.Graphs)), .pv (.sl (List.map e_i64 j3.f_w.S.Vars)), .pv (.sl (List.map e_queue_Elem j3.f_w.Elems)), .pv (.sl (List.map e_bool j3.f_w.Deaf)), .pv (.int .i64 j3.f_proc), .pv (.sl (List.map e_i64 j3.f_out)), .pv (.int .i64 j3.f_at), .pv (.int .i64 j3.f_e.From), .pv (.int .i64 j3.f_e.To), .pv (.int .i64 j3.f_e.Kind), .pv (.int .i64 j3.f_e.Var), .pv (.int .i64 j3.f_e.Chan), .pv (.int .i64 j3.f_e.Tag), .pv (.int .i64 j3.f_e.E.Kind), .pv (.int .i64 j3.f_e.E.Num), .pv (.int .i64 j3.f_e.E.Var), .pv (.sl (List.map e_check_Expr j3.f_e.E.Kids)), .pv (.int .i64 j3.f_e.C.Op), .pv (.int .i64 j3.f_e.C.L.Kind), .pv (.int .i64 j3.f_e.C.L.Num), .pv (.int .i64 j3.f_e.C.L.Var), .pv (.sl (List.map e_check_Expr j3.f_e.C.L.Kids)), .pv (.int .i64 j3.f_e.C.R.Kind), .pv (.int .i64 j3.f_e.C.R.Num), .pv (.int .i64 j3.f_e.C.R.Var), .pv (.sl (List.map e_check_Expr j3.f_e.C.R.Kids)), .pv (.bool j3.f_a.N.None), .pv (.sl (List.map e_itv_Itv j3.f_a.N.I)), .pv (.int .i64 j3.f_a.N.Z.N), .pv (.bool j3.f_a.N.Z.None)] ++ (bs (e_T42 j3.f_a.N.Z.D) ++ ([.row 1, .row 2, .pv (.int .i64 j3.f_sent.Chan), .pv (.int .i64 j3.f_sent.Tag), .pv (.int .i64 j3.f_sent.Vals.Lo), .pv (.int .i64 j3.f_sent.Vals.Hi)] ++ bs (e_T92 j3.f_errors))))), some (.row true true 53 2 (List.map e_itv_Itv j2.2.2.1)), some (.row true true 85 1 (List.map e_rule_Set j2.2.2.2)), some (.box true 73 [.pv (.int .i64 v1.Kind), .pv (.int .i64 v1.Size), .pv (.int .i64 v1.From), .pv (.int .i64 v1.To), .pv (.int .i64 v1.Tags), .pv (.sl (List.map e_sl33 v1.Rule))]), none, some (.box true 53 [.pv (.int .i64 v3.Lo), .pv (.int .i64 v3.Hi)]), some (.box true 53 [.pv (.int .i64 v7.1.Lo), .pv (.int .i64 v7.1.Hi)])]⟩ : Sx)) h wT (fun o h => ?_) (fun j3 h => ?_)
          · refine drawn_ mixed ?_
            refine dl (t := 70) 0 [.c (.box 0 0)] rfl ?_
            refine dl (t := 71) 1 [.c (.box 3 0)] rfl ?_
            refine dl (t := 72) 2 [.c (.pv (.int .i64 v1.Kind))] rfl ?_
            refine dl (t := 73) 3 [.c (.pv (.bool (v1.Kind == 1)))] rfl ?_
            refine dl (t := 74) 4 [.c (.pv (.bool (v1.Kind == 1)))] rfl ?_
            refine (tf (v1.Kind == 1)).elim (fun k16 => ?_) (fun k16 => ?_)
            · have h := iteT h k16
              refine dl (t := 75) 5 [.c (.box 4 1)] rfl ?_
              refine dl (t := 76) 6 [.c (.pv (.int .i64 v2.Hi))] rfl ?_
              refine dl (t := 77) 7 [.c (.box 3 1)] rfl ?_
              refine dl (t := 78) 8 [.c (.pv (.int .i64 v1.Size))] rfl ?_
              refine dl (t := 79) 9 [.c (.pv (.bool (decide (v2.Hi ≥ v1.Size))))] rfl ?_
              refine dl (t := 80) 10 [.c (.pv (.bool (decide (v2.Hi ≥ v1.Size))))] rfl ?_
              refine dl (t := 81) 11 [.c (.box 0 0)] rfl ?_
              refine dl (t := 82) 12 [.c (.box 0 86)] rfl ?_
              refine dl (t := 83) 13 [.c (.box 0 90)] rfl ?_
              obtain ⟨v12, k17, h⟩ := bindE h
              refine d_store (cs' := ([.pv (.sl (List.map e_check_Chan v12.f_w.S.Chans)), .pv (.sl (List.map e_flow_Graph v12.f_w.S.Graphs)), .pv (.sl (List.map e_i64 v12.f_w.S.Vars)), .pv (.sl (List.map e_queue_Elem v12.f_w.Elems)), .pv (.sl (List.map e_bool v12.f_w.Deaf)), .pv (.int .i64 v12.f_proc), .pv (.sl (List.map e_i64 v12.f_out)), .pv (.int .i64 v12.f_at), .pv (.int .i64 v12.f_e.From), .pv (.int .i64 v12.f_e.To), .pv (.int .i64 v12.f_e.Kind), .pv (.int .i64 v12.f_e.Var), .pv (.int .i64 v12.f_e.Chan), .pv (.int .i64 v12.f_e.Tag), .pv (.int .i64 v12.f_e.E.Kind), .pv (.int .i64 v12.f_e.E.Num), .pv (.int .i64 v12.f_e.E.Var), .pv (.sl (List.map e_check_Expr v12.f_e.E.Kids)), .pv (.int .i64 v12.f_e.C.Op), .pv (.int .i64 v12.f_e.C.L.Kind), .pv (.int .i64 v12.f_e.C.L.Num), .pv (.int .i64 v12.f_e.C.L.Var), .pv (.sl (List.map e_check_Expr v12.f_e.C.L.Kids)), .pv (.int .i64 v12.f_e.C.R.Kind), .pv (.int .i64 v12.f_e.C.R.Num), .pv (.int .i64 v12.f_e.C.R.Var), .pv (.sl (List.map e_check_Expr v12.f_e.C.R.Kids)), .pv (.bool v12.f_a.N.None), .pv (.sl (List.map e_itv_Itv v12.f_a.N.I)), .pv (.int .i64 v12.f_a.N.Z.N), .pv (.bool v12.f_a.N.Z.None)] ++ (bs (e_T42 v12.f_a.N.Z.D) ++ ([.row 1, .row 2, .pv (.int .i64 v12.f_sent.Chan), .pv (.int .i64 v12.f_sent.Tag), .pv (.int .i64 v12.f_sent.Vals.Lo), .pv (.int .i64 v12.f_sent.Vals.Hi)] ++ bs (e_T92 v12.f_errors))))) (wm [0, 0, 2, 6, 14, 30, 62, 30, 158, 510, 1022, 1, 2049, 8191, 16383]) 14 rfl (by kernel_rfl) (by kernel_rfl) (by kernel_rfl) (by kernel_rfl) (by kernel_rfl) (gi0 rfl) (oL [] rfl (by kernel_rfl) (fl_lt (ia_box rfl u92 ty4 rfl rfl rfl 90 rfl)) (oE tbok [] 2 (by kernel_rfl) (oL [] rfl (by kernel_rfl) (fl_lt (lt_pickT rfl rfl k16 rfl)) (owF (by kernel_rfl) (fo_l [] rfl rfl rfl (by kernel_rfl) (by kernel_rfl) (by kernel_rfl) (gi1 rfl rfl rfl (beT k16)) (fl_lt (lt_int rfl rfl rfl rfl))) (owF (by kernel_rfl) (fo_l [] rfl rfl rfl (by kernel_rfl) (by kernel_rfl) (by kernel_rfl) (gi1 rfl rfl rfl (beT k16)) (fl_lt (lt_load_box rfl ty3 rfl rfl rfl))) (owF (by kernel_rfl) (fo_l [] rfl rfl rfl (by kernel_rfl) (by kernel_rfl) (by kernel_rfl) (gi1 rfl rfl rfl (beT k16)) (fl_lt (lt_fa_box rfl f73_1 ty3 (by decide) rfl))) (owF (by kernel_rfl) (fo_l [] rfl rfl rfl (by kernel_rfl) (by kernel_rfl) (by kernel_rfl) (gi1 rfl rfl rfl (beT k16)) (fl_lt (lt_load_box rfl ty3 rfl rfl rfl))) (owF (by kernel_rfl) (fo_l [] rfl rfl rfl (by kernel_rfl) (by kernel_rfl) (by kernel_rfl) (gi1 rfl rfl rfl (beT k16)) (fl_lt (lt_fa_box rfl f53_1 ty3 (by decide) rfl))) (oE tbok [] 5 (by kernel_rfl) trivial))))))))) rfl rfl ty4 rfl rfl rfl rfl rfl rfl (by rw [← retE k17]; kernel_rfl) (SetAt.eq .z) ?_
              refine d_endS (env2 := [(0, [.c (.box 0 0)]), (2, [.c (.pv (.int .i64 a0.f_e.Chan))]), (3, [.c (.box 3 0)]), (5, [.c (.box 5 0)]), (6, [.c (.box 6 0)])]) (wm [0, 0, 2, 6, 14, 30, 62, 30, 158, 510, 1022, 1, 2049, 8191, 16383]) (by kernel_rfl) (by kernel_rfl) (by kernel_rfl) (oN 15 (by kernel_rfl) trivial) (sub_cons rfl (sub_cons rfl (sub_cons rfl (sub_cons rfl (sub_cons rfl sub_nil))))) wM ?_
              obtain rfl := retE h
              refine mN ?_
              refine w_none 4 (.s (.s (.s (.s .z)))) ?_
              exact wkE (by kernel_rfl) (by kernel_rfl)
            · have h := iteF h k16
              refine ds (t := 75) 5 rfl ?_
              refine ds (t := 76) 6 rfl ?_
              refine ds (t := 77) 7 rfl ?_
              refine ds (t := 78) 8 rfl ?_
              refine ds (t := 79) 9 rfl ?_
              refine dl (t := 80) 10 [.c (.pv (.bool false))] rfl ?_
              refine dl (t := 81) 11 [.c (.box 0 0)] rfl ?_
              refine dl (t := 82) 12 [.c (.box 0 86)] rfl ?_
              refine dl (t := 83) 13 [.c (.box 0 90)] rfl ?_
              obtain ⟨v13, k18, h⟩ := bindE h
              refine d_store (cs' := ([.pv (.sl (List.map e_check_Chan v13.f_w.S.Chans)), .pv (.sl (List.map e_flow_Graph v13.f_w.S.Graphs)), .pv (.sl (List.map e_i64 v13.f_w.S.Vars)), .pv (.sl (List.map e_queue_Elem v13.f_w.Elems)), .pv (.sl (List.map e_bool v13.f_w.Deaf)), .pv (.int .i64 v13.f_proc), .pv (.sl (List.map e_i64 v13.f_out)), .pv (.int .i64 v13.f_at), .pv (.int .i64 v13.f_e.From), .pv (.int .i64 v13.f_e.To), .pv (.int .i64 v13.f_e.Kind), .pv (.int .i64 v13.f_e.Var), .pv (.int .i64 v13.f_e.Chan), .pv (.int .i64 v13.f_e.Tag), .pv (.int .i64 v13.f_e.E.Kind), .pv (.int .i64 v13.f_e.E.Num), .pv (.int .i64 v13.f_e.E.Var), .pv (.sl (List.map e_check_Expr v13.f_e.E.Kids)), .pv (.int .i64 v13.f_e.C.Op), .pv (.int .i64 v13.f_e.C.L.Kind), .pv (.int .i64 v13.f_e.C.L.Num), .pv (.int .i64 v13.f_e.C.L.Var), .pv (.sl (List.map e_check_Expr v13.f_e.C.L.Kids)), .pv (.int .i64 v13.f_e.C.R.Kind), .pv (.int .i64 v13.f_e.C.R.Num), .pv (.int .i64 v13.f_e.C.R.Var), .pv (.sl (List.map e_check_Expr v13.f_e.C.R.Kids)), .pv (.bool v13.f_a.N.None), .pv (.sl (List.map e_itv_Itv v13.f_a.N.I)), .pv (.int .i64 v13.f_a.N.Z.N), .pv (.bool v13.f_a.N.Z.None)] ++ (bs (e_T42 v13.f_a.N.Z.D) ++ ([.row 1, .row 2, .pv (.int .i64 v13.f_sent.Chan), .pv (.int .i64 v13.f_sent.Tag), .pv (.int .i64 v13.f_sent.Vals.Lo), .pv (.int .i64 v13.f_sent.Vals.Hi)] ++ bs (e_T92 v13.f_errors))))) (wm [0, 0, 2, 6, 14, 30, 62, 30, 158, 510, 1022, 1, 2049, 8191, 16383]) 14 rfl (by kernel_rfl) (by kernel_rfl) (by kernel_rfl) (by kernel_rfl) (by kernel_rfl) (gi0 rfl) (oL [] rfl (by kernel_rfl) (fl_lt (ia_box rfl u92 ty4 rfl rfl rfl 90 rfl)) (oE tbok [] 2 (by kernel_rfl) (oL [] rfl (by kernel_rfl) (fl_lt (lt_pickF rfl rfl k16 rfl)) (owF (by kernel_rfl) (fo_s [] rfl rfl rfl (by kernel_rfl) (by kernel_rfl) (by kernel_rfl) (gi1 rfl rfl rfl (beF k16))) (owF (by kernel_rfl) (fo_s [] rfl rfl rfl (by kernel_rfl) (by kernel_rfl) (by kernel_rfl) (gi1 rfl rfl rfl (beF k16))) (owF (by kernel_rfl) (fo_s [] rfl rfl rfl (by kernel_rfl) (by kernel_rfl) (by kernel_rfl) (gi1 rfl rfl rfl (beF k16))) (owF (by kernel_rfl) (fo_s [] rfl rfl rfl (by kernel_rfl) (by kernel_rfl) (by kernel_rfl) (gi1 rfl rfl rfl (beF k16))) (owF (by kernel_rfl) (fo_s [] rfl rfl rfl (by kernel_rfl) (by kernel_rfl) (by kernel_rfl) (gi1 rfl rfl rfl (beF k16))) (oE tbok [] 5 (by kernel_rfl) trivial))))))))) rfl rfl ty4 rfl rfl rfl rfl rfl rfl (by rw [← retE k18]; kernel_rfl) (SetAt.eq .z) ?_
              refine d_endS (env2 := [(0, [.c (.box 0 0)]), (2, [.c (.pv (.int .i64 a0.f_e.Chan))]), (3, [.c (.box 3 0)]), (5, [.c (.box 5 0)]), (6, [.c (.box 6 0)])]) (wm [0, 0, 2, 6, 14, 30, 62, 30, 158, 510, 1022, 1, 2049, 8191, 16383]) (by kernel_rfl) (by kernel_rfl) (by kernel_rfl) (oN 15 (by kernel_rfl) trivial) (sub_cons rfl (sub_cons rfl (sub_cons rfl (sub_cons rfl (sub_cons rfl sub_nil))))) wM ?_
              obtain rfl := retE h
              refine mN ?_
              refine w_none 4 (.s (.s (.s (.s .z)))) ?_
              exact wkE (by kernel_rfl) (by kernel_rfl)
          · refine then_ ?_
            refine seq_ ?_
            refine seq_ ?_
            refine region_ ?_
            refine R tbok 1 [84, 0, 2, 3, 5, 6] [(84, [.agg [.pv (.int .i64 v3.Lo), .pv (.int .i64 v3.Hi)]]), (0, [.c (.box 0 0)]), (2, [.c (.pv (.int .i64 a0.f_e.Chan))]), (3, [.c (.box 3 0)]), (5, [.c (.box 5 0)]), (6, [.c (.box 6 0)])] (by kernel_rfl) ?_
            obtain ⟨v14, k19, h⟩ := bindE h
            refine C rfl rfl (fl_call rfl Try.call31 rfl (by kernel_rfl) (by kernel_rfl) (itv_Empty_meets k19)) rfl ?_
            refine ops_nil ?_
            refine then_ ?_
            refine cond_ (b := v14) rfl (fun k20 => ?_) (fun k20 => ?_)
            · have h := iteT h k20
              refine seq_ ?_
              refine region_ ?_
              refine R tbok 1 [86, 0, 2, 3, 5, 6] [(86, [.c (.box 0 0)]), (0, [.c (.box 0 0)]), (2, [.c (.pv (.int .i64 a0.f_e.Chan))]), (3, [.c (.box 3 0)]), (5, [.c (.box 5 0)]), (6, [.c (.box 6 0)])] (by kernel_rfl) ?_
              obtain ⟨v15, k21, h⟩ := bindE h
              refine callS (env' := [(86, [.c (.box 0 0)]), (0, [.c (.box 0 0)]), (2, [.c (.pv (.int .i64 a0.f_e.Chan))]), (3, [.c (.box 3 0)]), (5, [.c (.box 5 0)]), (6, [.c (.box 6 0)])]) (argsX' := []) (st' := [some (.box true 94 (bs (e_trans_stepper v15))), none, none, some (.box true 73 [.pv (.int .i64 v1.Kind), .pv (.int .i64 v1.Size), .pv (.int .i64 v1.From), .pv (.int .i64 v1.To), .pv (.int .i64 v1.Tags), .pv (.sl (List.map e_sl33 v1.Rule))]), none, some (.box true 53 [.pv (.int .i64 v3.Lo), .pv (.int .i64 v3.Hi)]), some (.box true 53 [.pv (.int .i64 v7.1.Lo), .pv (.int .i64 v7.1.Hi)])]) [0, 1, 2] [] rfl rfl rfl rfl Try.call47 rfl rfl (by kernel_rfl) (by kernel_rfl) (trans_stepper_stops_meets k21) (by kernel_rfl) (by kernel_rfl) (by kernel_rfl) ?_
              refine ops_nil ?_
              refine then_ ?_
              refine ret_ ?_
              obtain rfl := retE h
              refine tR (rwr (rw_ .nil ?_))
              refine w_none 3 (.s (.s (.s .z))) ?_
              refine w_none 5 (.s (.s (.s (.s (.s .z))))) ?_
              refine w_none 6 (.s (.s (.s (.s (.s (.s .z)))))) ?_
              refine w_cut 3 rfl rfl rfl rfl ?_
              exact wkE (by kernel_rfl) (by kernel_rfl)
            · have h := iteF h k20
              refine skip_ ?_
              refine then_ ?_
              refine seq_ ?_
              refine drawn_ mixed ?_
              refine dl (t := 88) 0 [.c (.box 0 0)] rfl ?_
              refine dl (t := 89) 1 [.c (.box 0 0)] rfl ?_
              refine dl (t := 90) 2 [.c (.box 0 27)] rfl ?_
              refine dl (t := 91) 3 [.c (.box 0 80)] rfl ?_
              refine dl (t := 92) 4 [.c (.row 1)] rfl ?_
              refine dl (t := 93) 5 [.c (.pv (.int .i64 a0.f_e.Chan))] rfl ?_
              refine dl (t := 94) 6 [.c (.box 5 0)] rfl ?_
              refine dl (t := 95) 7 [.c (.pv (.int .i64 v3.Lo))] rfl ?_
              refine dl (t := 96) 8 [.c (.pv (.int .i64 (IntKind.i64.wrap (v3.Lo + 1))))] rfl ?_
              refine dl (t := 97) 9 [.c (.box 3 1)] rfl ?_
              refine dl (t := 98) 10 [.c (.pv (.int .i64 v1.Size))] rfl ?_
              refine dl (t := 99) 11 [.c (.pv (.int .i64 (IntKind.i64.wrap (v1.Size + 1))))] rfl ?_
              refine dl (t := 100) 12 [.c (.pv (.int .i64 (min (IntKind.i64.wrap (v3.Lo + 1)) (IntKind.i64.wrap (v1.Size + 1)))))] rfl ?_
              refine dl (t := 101) 13 [.c (.box 5 1)] rfl ?_
              refine dl (t := 102) 14 [.c (.pv (.int .i64 v3.Hi))] rfl ?_
              refine dl (t := 103) 15 [.c (.pv (.int .i64 (IntKind.i64.wrap (v3.Hi + 1))))] rfl ?_
              refine dl (t := 104) 16 [.c (.box 3 1)] rfl ?_
              refine dl (t := 105) 17 [.c (.pv (.int .i64 v1.Size))] rfl ?_
              refine dl (t := 106) 18 [.c (.pv (.int .i64 (IntKind.i64.wrap (v1.Size + 1))))] rfl ?_
              refine dl (t := 107) 19 [.c (.pv (.int .i64 (min (IntKind.i64.wrap (v3.Hi + 1)) (IntKind.i64.wrap (v1.Size + 1)))))] rfl ?_
              refine dl (t := 108) 20 [.agg [.pv (.int .i64 (min (IntKind.i64.wrap (v3.Lo + 1)) (IntKind.i64.wrap (v1.Size + 1)))), .pv (.int .i64 (min (IntKind.i64.wrap (v3.Hi + 1)) (IntKind.i64.wrap (v1.Size + 1))))]] rfl ?_
              obtain ⟨v16, k22, h⟩ := bindE h
              refine dl (t := 109) 21 [.c (.rp 1 2 (a0.f_e.Chan).toNat 0)] rfl ?_
              refine d_storeR (wm [0, 1, 3, 7, 15, 0, 0, 64, 192, 0, 512, 1536, 4032, 0, 8192, 24576, 0, 65536, 196608, 516096, 1048512, 2097151, 4194303]) 22 rfl (by kernel_rfl) (by kernel_rfl) (by kernel_rfl) (by kernel_rfl) (by kernel_rfl) (gi0 rfl) (oL [] rfl (by kernel_rfl) (fl_lt (ia_row (e := e_itv_Itv) rfl u40 ty53 rfl rfl rfl k22)) (oL [] rfl (by kernel_rfl) (fl_lt (lt_build (cs := [.pv (.int .i64 (min (IntKind.i64.wrap (v3.Lo + 1)) (IntKind.i64.wrap (v1.Size + 1)))), .pv (.int .i64 (min (IntKind.i64.wrap (v3.Hi + 1)) (IntKind.i64.wrap (v1.Size + 1))))]) rfl st53 rfl (by kernel_rfl))) (oL [] rfl (by kernel_rfl) (fl_lt (lt_min2 rfl rfl rfl)) (oE tbok [] 6 (by kernel_rfl) (oL [] rfl (by kernel_rfl) (fl_lt (lt_min2 rfl rfl rfl)) (oE tbok [] 12 (by kernel_rfl) trivial)))))) rfl rfl ty53 rfl rfl (row_at k22) rfl rfl rfl rfl rfl (st' := [some (.box true 94 ([.pv (.sl (List.map e_check_Chan j3.f_w.S.Chans)), .pv (.sl (List.map e_flow_Graph j3.f_w.S.Graphs)), .pv (.sl (List.map e_i64 j3.f_w.S.Vars)), .pv (.sl (List.map e_queue_Elem j3.f_w.Elems)), .pv (.sl (List.map e_bool j3.f_w.Deaf)), .pv (.int .i64 j3.f_proc), .pv (.sl (List.map e_i64 j3.f_out)), .pv (.int .i64 j3.f_at), .pv (.int .i64 j3.f_e.From), .pv (.int .i64 j3.f_e.To), .pv (.int .i64 j3.f_e.Kind), .pv (.int .i64 j3.f_e.Var), .pv (.int .i64 j3.f_e.Chan), .pv (.int .i64 j3.f_e.Tag), .pv (.int .i64 j3.f_e.E.Kind), .pv (.int .i64 j3.f_e.E.Num), .pv (.int .i64 j3.f_e.E.Var), .pv (.sl (List.map e_check_Expr j3.f_e.E.Kids)), .pv (.int .i64 j3.f_e.C.Op), .pv (.int .i64 j3.f_e.C.L.Kind), .pv (.int .i64 j3.f_e.C.L.Num), .pv (.int .i64 j3.f_e.C.L.Var), .pv (.sl (List.map e_check_Expr j3.f_e.C.L.Kids)), .pv (.int .i64 j3.f_e.C.R.Kind), .pv (.int .i64 j3.f_e.C.R.Num), .pv (.int .i64 j3.f_e.C.R.Var), .pv (.sl (List.map e_check_Expr j3.f_e.C.R.Kids)), .pv (.bool j3.f_a.N.None), .pv (.sl (List.map e_itv_Itv j3.f_a.N.I)), .pv (.int .i64 j3.f_a.N.Z.N), .pv (.bool j3.f_a.N.Z.None)] ++ (bs (e_T42 j3.f_a.N.Z.D) ++ ([.row 1, .row 2, .pv (.int .i64 j3.f_sent.Chan), .pv (.int .i64 j3.f_sent.Tag), .pv (.int .i64 j3.f_sent.Vals.Lo), .pv (.int .i64 j3.f_sent.Vals.Hi)] ++ bs (e_T92 j3.f_errors))))), some (.row true true 53 2 (List.map e_itv_Itv (seti j2.2.2.1 a0.f_e.Chan (itv_Itv.mk (min (IntKind.i64.wrap (v3.Lo + 1)) (IntKind.i64.wrap (v1.Size + 1))) (min (IntKind.i64.wrap (v3.Hi + 1)) (IntKind.i64.wrap (v1.Size + 1))))))), some (.row true true 85 1 (List.map e_rule_Set j2.2.2.2)), some (.box true 73 [.pv (.int .i64 v1.Kind), .pv (.int .i64 v1.Size), .pv (.int .i64 v1.From), .pv (.int .i64 v1.To), .pv (.int .i64 v1.Tags), .pv (.sl (List.map e_sl33 v1.Rule))]), none, some (.box true 53 [.pv (.int .i64 v3.Lo), .pv (.int .i64 v3.Hi)]), some (.box true 53 [.pv (.int .i64 v7.1.Lo), .pv (.int .i64 v7.1.Hi)])]) (set_row (e := e_itv_Itv) k22 (z' := (itv_Itv.mk (min (IntKind.i64.wrap (v3.Lo + 1)) (IntKind.i64.wrap (v1.Size + 1))) (min (IntKind.i64.wrap (v3.Hi + 1)) (IntKind.i64.wrap (v1.Size + 1))))) rfl (.s .z)) ?_
              refine d_endS (env2 := [(0, [.c (.box 0 0)]), (2, [.c (.pv (.int .i64 a0.f_e.Chan))]), (6, [.c (.box 6 0)])]) (wm [0, 1, 3, 7, 15, 0, 0, 64, 192, 0, 512, 1536, 4032, 0, 8192, 24576, 0, 65536, 196608, 516096, 1048512, 2097151, 4194303]) (by kernel_rfl) (by kernel_rfl) (by kernel_rfl) (oN 23 (by kernel_rfl) trivial) (sub_cons rfl (sub_cons rfl (sub_cons rfl sub_nil))) wT ?_
              refine then_ ?_
              refine drawn_ mixed ?_
              refine dl (t := 110) 0 [.c (.box 0 0)] rfl ?_
              refine dl (t := 111) 1 [.c (.pv (.int .i64 a0.f_e.Chan))] rfl ?_
              refine dl (t := 112) 2 [.c (.box 0 0)] rfl ?_
              refine dl (t := 113) 3 [.c (.box 0 0)] rfl ?_
              refine dl (t := 114) 4 [.c (.box 0 8)] rfl ?_
              refine dl (t := 115) 5 [.c (.box 0 13)] rfl ?_
              refine dl (t := 116) 6 [.c (.pv (.int .i64 j3.f_e.Tag))] rfl ?_
              refine dl (t := 117) 7 [.agg [.pv (.int .i64 v7.1.Lo), .pv (.int .i64 v7.1.Hi)]] rfl ?_
              refine dl (t := 118) 8 [.agg [.pv (.int .i64 a0.f_e.Chan), .pv (.int .i64 j3.f_e.Tag), .pv (.int .i64 v7.1.Lo), .pv (.int .i64 v7.1.Hi)]] rfl ?_
              refine dl (t := 119) 9 [.c (.box 0 0)] rfl ?_
              refine dl (t := 120) 10 [.c (.box 0 82)] rfl ?_
              obtain ⟨v17, k23, h⟩ := bindE h
              refine d_store (cs' := ([.pv (.sl (List.map e_check_Chan v17.f_w.S.Chans)), .pv (.sl (List.map e_flow_Graph v17.f_w.S.Graphs)), .pv (.sl (List.map e_i64 v17.f_w.S.Vars)), .pv (.sl (List.map e_queue_Elem v17.f_w.Elems)), .pv (.sl (List.map e_bool v17.f_w.Deaf)), .pv (.int .i64 v17.f_proc), .pv (.sl (List.map e_i64 v17.f_out)), .pv (.int .i64 v17.f_at), .pv (.int .i64 v17.f_e.From), .pv (.int .i64 v17.f_e.To), .pv (.int .i64 v17.f_e.Kind), .pv (.int .i64 v17.f_e.Var), .pv (.int .i64 v17.f_e.Chan), .pv (.int .i64 v17.f_e.Tag), .pv (.int .i64 v17.f_e.E.Kind), .pv (.int .i64 v17.f_e.E.Num), .pv (.int .i64 v17.f_e.E.Var), .pv (.sl (List.map e_check_Expr v17.f_e.E.Kids)), .pv (.int .i64 v17.f_e.C.Op), .pv (.int .i64 v17.f_e.C.L.Kind), .pv (.int .i64 v17.f_e.C.L.Num), .pv (.int .i64 v17.f_e.C.L.Var), .pv (.sl (List.map e_check_Expr v17.f_e.C.L.Kids)), .pv (.int .i64 v17.f_e.C.R.Kind), .pv (.int .i64 v17.f_e.C.R.Num), .pv (.int .i64 v17.f_e.C.R.Var), .pv (.sl (List.map e_check_Expr v17.f_e.C.R.Kids)), .pv (.bool v17.f_a.N.None), .pv (.sl (List.map e_itv_Itv v17.f_a.N.I)), .pv (.int .i64 v17.f_a.N.Z.N), .pv (.bool v17.f_a.N.Z.None)] ++ (bs (e_T42 v17.f_a.N.Z.D) ++ ([.row 1, .row 2, .pv (.int .i64 v17.f_sent.Chan), .pv (.int .i64 v17.f_sent.Tag), .pv (.int .i64 v17.f_sent.Vals.Lo), .pv (.int .i64 v17.f_sent.Vals.Hi)] ++ bs (e_T92 v17.f_errors))))) (wm [0, 0, 0, 4, 12, 28, 60, 0, 254, 511, 1023, 2047]) 11 rfl (by kernel_rfl) (by kernel_rfl) (by kernel_rfl) (by kernel_rfl) (by kernel_rfl) (gi0 rfl) (oE tbok [] 2 (by kernel_rfl) (oL [] rfl (by kernel_rfl) (fl_lt (lt_build (cs := [.pv (.int .i64 a0.f_e.Chan), .pv (.int .i64 j3.f_e.Tag), .pv (.int .i64 v7.1.Lo), .pv (.int .i64 v7.1.Hi)]) rfl st55 rfl (by kernel_rfl))) (oE tbok [] 8 (by kernel_rfl) trivial))) rfl rfl ty55 rfl rfl rfl rfl rfl rfl (by rw [← retE k23]; kernel_rfl) (SetAt.eq .z) ?_
              refine d_endS (env2 := []) (wm [0, 0, 0, 4, 12, 28, 60, 0, 254, 511, 1023, 2047]) (by kernel_rfl) (by kernel_rfl) (by kernel_rfl) (oN 12 (by kernel_rfl) trivial) sub_nil wW ?_
              obtain rfl := retE h
              refine rwn .nil ?_
              refine (w_freeze (b := 1) (env' := [(0, [])]) (st' := [some (.box true 94 ([.pv (.sl (List.map e_check_Chan v17.f_w.S.Chans)), .pv (.sl (List.map e_flow_Graph v17.f_w.S.Graphs)), .pv (.sl (List.map e_i64 v17.f_w.S.Vars)), .pv (.sl (List.map e_queue_Elem v17.f_w.Elems)), .pv (.sl (List.map e_bool v17.f_w.Deaf)), .pv (.int .i64 v17.f_proc), .pv (.sl (List.map e_i64 v17.f_out)), .pv (.int .i64 v17.f_at), .pv (.int .i64 v17.f_e.From), .pv (.int .i64 v17.f_e.To), .pv (.int .i64 v17.f_e.Kind), .pv (.int .i64 v17.f_e.Var), .pv (.int .i64 v17.f_e.Chan), .pv (.int .i64 v17.f_e.Tag), .pv (.int .i64 v17.f_e.E.Kind), .pv (.int .i64 v17.f_e.E.Num), .pv (.int .i64 v17.f_e.E.Var), .pv (.sl (List.map e_check_Expr v17.f_e.E.Kids)), .pv (.int .i64 v17.f_e.C.Op), .pv (.int .i64 v17.f_e.C.L.Kind), .pv (.int .i64 v17.f_e.C.L.Num), .pv (.int .i64 v17.f_e.C.L.Var), .pv (.sl (List.map e_check_Expr v17.f_e.C.L.Kids)), .pv (.int .i64 v17.f_e.C.R.Kind), .pv (.int .i64 v17.f_e.C.R.Num), .pv (.int .i64 v17.f_e.C.R.Var), .pv (.sl (List.map e_check_Expr v17.f_e.C.R.Kids)), .pv (.bool v17.f_a.N.None), .pv (.sl (List.map e_itv_Itv v17.f_a.N.I)), .pv (.int .i64 v17.f_a.N.Z.N), .pv (.bool v17.f_a.N.Z.None)] ++ (bs (e_T42 v17.f_a.N.Z.D) ++ ([.pv (.sl (List.map e_itv_Itv (seti j2.2.2.1 a0.f_e.Chan (itv_Itv.mk (min (IntKind.i64.wrap (v3.Lo + 1)) (IntKind.i64.wrap (v1.Size + 1))) (min (IntKind.i64.wrap (v3.Hi + 1)) (IntKind.i64.wrap (v1.Size + 1))))))), .row 2, .pv (.int .i64 v17.f_sent.Chan), .pv (.int .i64 v17.f_sent.Tag), .pv (.int .i64 v17.f_sent.Vals.Lo), .pv (.int .i64 v17.f_sent.Vals.Hi)] ++ bs (e_T92 v17.f_errors))))), none, some (.row true true 85 1 (List.map e_rule_Set j2.2.2.2)), some (.box true 73 [.pv (.int .i64 v1.Kind), .pv (.int .i64 v1.Size), .pv (.int .i64 v1.From), .pv (.int .i64 v1.To), .pv (.int .i64 v1.Tags), .pv (.sl (List.map e_sl33 v1.Rule))]), none, some (.box true 53 [.pv (.int .i64 v3.Lo), .pv (.int .i64 v3.Hi)]), some (.box true 53 [.pv (.int .i64 v7.1.Lo), .pv (.int .i64 v7.1.Hi)])]) rfl rfl rfl ?_)
              refine (w_freeze (b := 2) (env' := [(0, [])]) (st' := [some (.box true 94 (bs (e_trans_stepper (trans_stepper.mk v17.f_w v17.f_proc v17.f_out v17.f_at v17.f_e (trans_State.mk v17.f_a.N (seti j2.2.2.1 a0.f_e.Chan (itv_Itv.mk (min (IntKind.i64.wrap (v3.Lo + 1)) (IntKind.i64.wrap (v1.Size + 1))) (min (IntKind.i64.wrap (v3.Hi + 1)) (IntKind.i64.wrap (v1.Size + 1))))) j2.2.2.2) v17.f_sent v17.f_errors)))), none, none, some (.box true 73 [.pv (.int .i64 v1.Kind), .pv (.int .i64 v1.Size), .pv (.int .i64 v1.From), .pv (.int .i64 v1.To), .pv (.int .i64 v1.Tags), .pv (.sl (List.map e_sl33 v1.Rule))]), none, some (.box true 53 [.pv (.int .i64 v3.Lo), .pv (.int .i64 v3.Hi)]), some (.box true 53 [.pv (.int .i64 v7.1.Lo), .pv (.int .i64 v7.1.Hi)])]) rfl rfl rfl ?_)
              refine w_none 3 (.s (.s (.s .z))) ?_
              refine w_none 5 (.s (.s (.s (.s (.s .z))))) ?_
              refine w_none 6 (.s (.s (.s (.s (.s (.s .z)))))) ?_
              refine w_cut 3 rfl rfl rfl rfl ?_
              exact wkE (by kernel_rfl) (by kernel_rfl)

theorem trans_stepper_stops_2_meets {a0 : trans_stepper} {r : trans_stepper} (h : trans_stepper_stops_2 a0 = some r) : MeetsS Try.prog GG 47 [.c (.box 0 0)] [some (.box true 94 (bs (e_trans_stepper a0)))] [] [some (.box true 94 (bs (e_trans_stepper r)))] := by
  refine meetsW_of (N := 15) r_trans_stepper_stops_2 o_trans_stepper_stops_2 r Try.func47 rfl rfl rfl (by dsimp only [argEnv]) rfl ?_
  unfold trans_stepper_stops_2 at h
  refine drawn_ mixed ?_
  refine dl (t := 2) 0 [.c (.box 0 0)] rfl ?_
  refine dl (t := 3) 1 [.c (.box 0 0)] rfl ?_
  refine dl (t := 4) 2 [.c (.box 0 0)] rfl ?_
  refine dl (t := 5) 3 [.c (.box 0 0)] rfl ?_
  refine dl (t := 6) 4 [.c (.box 0 0)] rfl ?_
  refine dl (t := 7) 5 [.agg [.pv (.sl (List.map e_check_Chan a0.f_w.S.Chans)), .pv (.sl (List.map e_flow_Graph a0.f_w.S.Graphs)), .pv (.sl (List.map e_i64 a0.f_w.S.Vars))]] rfl ?_
  refine dl (t := 8) 6 [.c (.box 0 0)] rfl ?_
  refine dl (t := 9) 7 [.c (.box 0 0)] rfl ?_
  refine dl (t := 10) 8 [.c (.box 0 5)] rfl ?_
  refine dl (t := 11) 9 [.c (.pv (.int .i64 a0.f_proc))] rfl ?_
  obtain ⟨v2, k2, h⟩ := bindE h
  refine dl (t := 12) 10 [.agg (bs (e_trans_State v2))] rfl ?_
  refine dl (t := 13) 11 [.c (.box 0 0)] rfl ?_
  refine dl (t := 14) 12 [.c (.box 0 27)] rfl ?_
  obtain ⟨v3, k3, h⟩ := bindE h
  refine d_store (cs' := (bs (e_trans_stepper v3))) (wm [0, 0, 2, 6, 14, 30, 0, 64, 192, 448, 1022, 2047, 4095, 8191]) 13 rfl (by kernel_rfl) (by kernel_rfl) (by kernel_rfl) (by kernel_rfl) (by kernel_rfl) (gi0 rfl) (oE tbok [] 2 (by kernel_rfl) (oL [] rfl (by kernel_rfl) (fl_call rfl Try.call23 rfl (by kernel_rfl) (by kernel_rfl) (trans_None_meets k2)) (oE tbok [] 10 (by kernel_rfl) trivial))) rfl rfl ty49 rfl rfl rfl rfl rfl rfl (by rw [← retE k3]; kernel_rfl) (SetAt.eq .z) ?_
  refine d_endS (env2 := []) (wm [0, 0, 2, 6, 14, 30, 0, 64, 192, 448, 1022, 2047, 4095, 8191]) (by kernel_rfl) (by kernel_rfl) (by kernel_rfl) (oN 14 (by kernel_rfl) trivial) sub_nil wW ?_
  obtain rfl := retE h
  refine rwn .nil ?_
  exact wkE (by kernel_rfl) (by kernel_rfl)

theorem trans_stepper_step_meets {a0 : trans_stepper} {r : trans_stepper} (h : trans_stepper_step a0 = some r) : MeetsS Try.prog GG 26 [.c (.box 0 0)] [some (.box true 94 ([.pv (.sl (List.map e_check_Chan a0.f_w.S.Chans)), .pv (.sl (List.map e_flow_Graph a0.f_w.S.Graphs)), .pv (.sl (List.map e_i64 a0.f_w.S.Vars)), .pv (.sl (List.map e_queue_Elem a0.f_w.Elems)), .pv (.sl (List.map e_bool a0.f_w.Deaf)), .pv (.int .i64 a0.f_proc), .pv (.sl (List.map e_i64 a0.f_out)), .pv (.int .i64 a0.f_at), .pv (.int .i64 a0.f_e.From), .pv (.int .i64 a0.f_e.To), .pv (.int .i64 a0.f_e.Kind), .pv (.int .i64 a0.f_e.Var), .pv (.int .i64 a0.f_e.Chan), .pv (.int .i64 a0.f_e.Tag), .pv (.int .i64 a0.f_e.E.Kind), .pv (.int .i64 a0.f_e.E.Num), .pv (.int .i64 a0.f_e.E.Var), .pv (.sl (List.map e_check_Expr a0.f_e.E.Kids)), .pv (.int .i64 a0.f_e.C.Op), .pv (.int .i64 a0.f_e.C.L.Kind), .pv (.int .i64 a0.f_e.C.L.Num), .pv (.int .i64 a0.f_e.C.L.Var), .pv (.sl (List.map e_check_Expr a0.f_e.C.L.Kids)), .pv (.int .i64 a0.f_e.C.R.Kind), .pv (.int .i64 a0.f_e.C.R.Num), .pv (.int .i64 a0.f_e.C.R.Var), .pv (.sl (List.map e_check_Expr a0.f_e.C.R.Kids)), .pv (.bool a0.f_a.N.None), .pv (.sl (List.map e_itv_Itv a0.f_a.N.I)), .pv (.int .i64 a0.f_a.N.Z.N), .pv (.bool a0.f_a.N.Z.None)] ++ (bs (e_T42 a0.f_a.N.Z.D) ++ ([.row 1, .row 2, .pv (.int .i64 a0.f_sent.Chan), .pv (.int .i64 a0.f_sent.Tag), .pv (.int .i64 a0.f_sent.Vals.Lo), .pv (.int .i64 a0.f_sent.Vals.Hi)] ++ bs (e_T92 a0.f_errors))))), some (.row true false 53 2 (List.map e_itv_Itv a0.f_a.Counts)), some (.row true false 85 1 (List.map e_rule_Set a0.f_a.Rules))] [] [some (.box true 94 (bs (e_trans_stepper r))), none, none] := by
  refine meetsW_of (N := 52) r_trans_stepper_step o_trans_stepper_step r Try.func26 rfl rfl rfl (by dsimp only [argEnv]) rfl ?_
  unfold trans_stepper_step at h
  refine seq_ ?_
  refine jn_ (fun (j1 : trans_stepper) => (⟨52, 3, [(0, [.c (.box 0 0)])], [some (.box true 94 (bs (e_trans_stepper j1))), none, none]⟩ : Sx)) h wT (fun o h => ?_) (fun j1 h => ?_)
  · refine seq_ ?_
    refine region_ ?_
    refine R tbok 5 [6, 0] [(6, [.c (.pv (.int .i64 a0.f_e.Kind))]), (0, [.c (.box 0 0)])] (by kernel_rfl) ?_
    refine ops_nil ?_
    refine then_ ?_
    refine block_ ?_
    refine seq_ ?_
    refine region_ ?_
    refine R tbok 2 [7, 6, 0] [(7, [.c (.pv (.bool (a0.f_e.Kind == 1)))]), (6, [.c (.pv (.int .i64 a0.f_e.Kind))]), (0, [.c (.box 0 0)])] (by kernel_rfl) ?_
    refine ops_nil ?_
    refine then_ ?_
    refine cond_ (b := (a0.f_e.Kind == 1)) rfl (fun k1 => ?_) (fun k1 => ?_)
    · have h := iteT h k1
      refine region_ ?_
      refine R tbok 1 [9, 0] [(9, [.c (.box 0 0)]), (0, [.c (.box 0 0)])] (by kernel_rfl) ?_
      obtain ⟨v1, k2, h⟩ := bindE h
      refine callS (env' := [(9, [.c (.box 0 0)]), (0, [.c (.box 0 0)])]) (argsX' := []) (st' := [some (.box true 94 ([.pv (.sl (List.map e_check_Chan v1.f_w.S.Chans)), .pv (.sl (List.map e_flow_Graph v1.f_w.S.Graphs)), .pv (.sl (List.map e_i64 v1.f_w.S.Vars)), .pv (.sl (List.map e_queue_Elem v1.f_w.Elems)), .pv (.sl (List.map e_bool v1.f_w.Deaf)), .pv (.int .i64 v1.f_proc), .pv (.sl (List.map e_i64 v1.f_out)), .pv (.int .i64 v1.f_at), .pv (.int .i64 v1.f_e.From), .pv (.int .i64 v1.f_e.To), .pv (.int .i64 v1.f_e.Kind), .pv (.int .i64 v1.f_e.Var), .pv (.int .i64 v1.f_e.Chan), .pv (.int .i64 v1.f_e.Tag), .pv (.int .i64 v1.f_e.E.Kind), .pv (.int .i64 v1.f_e.E.Num), .pv (.int .i64 v1.f_e.E.Var), .pv (.sl (List.map e_check_Expr v1.f_e.E.Kids)), .pv (.int .i64 v1.f_e.C.Op), .pv (.int .i64 v1.f_e.C.L.Kind), .pv (.int .i64 v1.f_e.C.L.Num), .pv (.int .i64 v1.f_e.C.L.Var), .pv (.sl (List.map e_check_Expr v1.f_e.C.L.Kids)), .pv (.int .i64 v1.f_e.C.R.Kind), .pv (.int .i64 v1.f_e.C.R.Num), .pv (.int .i64 v1.f_e.C.R.Var), .pv (.sl (List.map e_check_Expr v1.f_e.C.R.Kids)), .pv (.bool v1.f_a.N.None), .pv (.sl (List.map e_itv_Itv v1.f_a.N.I)), .pv (.int .i64 v1.f_a.N.Z.N), .pv (.bool v1.f_a.N.Z.None)] ++ (bs (e_T42 v1.f_a.N.Z.D) ++ ([.row 1, .row 2, .pv (.int .i64 v1.f_sent.Chan), .pv (.int .i64 v1.f_sent.Tag), .pv (.int .i64 v1.f_sent.Vals.Lo), .pv (.int .i64 v1.f_sent.Vals.Hi)] ++ bs (e_T92 v1.f_errors))))), some (.row true true 53 2 (List.map e_itv_Itv v1.f_a.Counts)), some (.row true true 85 1 (List.map e_rule_Set v1.f_a.Rules))]) [0, 1, 2] [] rfl rfl rfl rfl Try.call41 rfl rfl (by kernel_rfl) (by kernel_rfl) (trans_stepper_assign_meets k2) (by kernel_rfl) (by kernel_rfl) (by kernel_rfl) ?_
      refine ops_nil ?_
      refine bN ?_
      obtain rfl := retE h
      refine mN ?_
      refine w_sub (env' := [(0, [.c (.box 0 0)])]) (sub_cons rfl sub_nil) ?_
      refine (w_freeze (b := 1) (env' := [(0, [.c (.box 0 0)])]) (st' := [some (.box true 94 ([.pv (.sl (List.map e_check_Chan v1.f_w.S.Chans)), .pv (.sl (List.map e_flow_Graph v1.f_w.S.Graphs)), .pv (.sl (List.map e_i64 v1.f_w.S.Vars)), .pv (.sl (List.map e_queue_Elem v1.f_w.Elems)), .pv (.sl (List.map e_bool v1.f_w.Deaf)), .pv (.int .i64 v1.f_proc), .pv (.sl (List.map e_i64 v1.f_out)), .pv (.int .i64 v1.f_at), .pv (.int .i64 v1.f_e.From), .pv (.int .i64 v1.f_e.To), .pv (.int .i64 v1.f_e.Kind), .pv (.int .i64 v1.f_e.Var), .pv (.int .i64 v1.f_e.Chan), .pv (.int .i64 v1.f_e.Tag), .pv (.int .i64 v1.f_e.E.Kind), .pv (.int .i64 v1.f_e.E.Num), .pv (.int .i64 v1.f_e.E.Var), .pv (.sl (List.map e_check_Expr v1.f_e.E.Kids)), .pv (.int .i64 v1.f_e.C.Op), .pv (.int .i64 v1.f_e.C.L.Kind), .pv (.int .i64 v1.f_e.C.L.Num), .pv (.int .i64 v1.f_e.C.L.Var), .pv (.sl (List.map e_check_Expr v1.f_e.C.L.Kids)), .pv (.int .i64 v1.f_e.C.R.Kind), .pv (.int .i64 v1.f_e.C.R.Num), .pv (.int .i64 v1.f_e.C.R.Var), .pv (.sl (List.map e_check_Expr v1.f_e.C.R.Kids)), .pv (.bool v1.f_a.N.None), .pv (.sl (List.map e_itv_Itv v1.f_a.N.I)), .pv (.int .i64 v1.f_a.N.Z.N), .pv (.bool v1.f_a.N.Z.None)] ++ (bs (e_T42 v1.f_a.N.Z.D) ++ ([.pv (.sl (List.map e_itv_Itv v1.f_a.Counts)), .row 2, .pv (.int .i64 v1.f_sent.Chan), .pv (.int .i64 v1.f_sent.Tag), .pv (.int .i64 v1.f_sent.Vals.Lo), .pv (.int .i64 v1.f_sent.Vals.Hi)] ++ bs (e_T92 v1.f_errors))))), none, some (.row true true 85 1 (List.map e_rule_Set v1.f_a.Rules))]) rfl rfl rfl ?_)
      refine (w_freeze (b := 2) (env' := [(0, [.c (.box 0 0)])]) (st' := [some (.box true 94 (bs (e_trans_stepper v1))), none, none]) rfl rfl rfl ?_)
      exact wkE (by kernel_rfl) (by kernel_rfl)
    · have h := iteF h k1
      refine seq_ ?_
      refine region_ ?_
      refine R tbok 2 [11, 6, 0] [(11, [.c (.pv (.bool (a0.f_e.Kind == 2)))]), (6, [.c (.pv (.int .i64 a0.f_e.Kind))]), (0, [.c (.box 0 0)])] (by kernel_rfl) ?_
      refine ops_nil ?_
      refine then_ ?_
      refine cond_ (b := (a0.f_e.Kind == 2)) rfl (fun k3 => ?_) (fun k3 => ?_)
      · have h := iteT h k3
        refine region_ ?_
        refine R tbok 1 [13, 0] [(13, [.c (.box 0 0)]), (0, [.c (.box 0 0)])] (by kernel_rfl) ?_
        cases h
      · have h := iteF h k3
        refine seq_ ?_
        refine region_ ?_
        refine R tbok 2 [15, 6, 0] [(15, [.c (.pv (.bool (a0.f_e.Kind == 5)))]), (6, [.c (.pv (.int .i64 a0.f_e.Kind))]), (0, [.c (.box 0 0)])] (by kernel_rfl) ?_
        refine ops_nil ?_
        refine then_ ?_
        refine cond_ (b := (a0.f_e.Kind == 5)) rfl (fun k4 => ?_) (fun k4 => ?_)
        · have h := iteT h k4
          refine region_ ?_
          refine R tbok 1 [17, 0] [(17, [.c (.box 0 0)]), (0, [.c (.box 0 0)])] (by kernel_rfl) ?_
          cases h
        · have h := iteF h k4
          refine seq_ ?_
          refine region_ ?_
          refine R tbok 2 [19, 6, 0] [(19, [.c (.pv (.bool (a0.f_e.Kind == 6)))]), (6, [.c (.pv (.int .i64 a0.f_e.Kind))]), (0, [.c (.box 0 0)])] (by kernel_rfl) ?_
          refine ops_nil ?_
          refine then_ ?_
          refine cond_ (b := (a0.f_e.Kind == 6)) rfl (fun k5 => ?_) (fun k5 => ?_)
          · have h := iteT h k5
            refine drawn_ mixed ?_
            refine dl (t := 21) 0 [.c (.box 0 0)] rfl ?_
            refine dl (t := 22) 1 [.c (.box 0 0)] rfl ?_
            refine dl (t := 23) 2 [.c (.box 0 0)] rfl ?_
            refine dl (t := 24) 3 [.c (.box 0 27)] rfl ?_
            refine dl (t := 25) 4 [.c (.box 0 27)] rfl ?_
            refine dl (t := 26) 5 [.agg (bs (e_num_Num a0.f_a.N))] rfl ?_
            refine dl (t := 27) 6 [.c (.box 0 0)] rfl ?_
            refine dl (t := 28) 7 [.c (.box 0 0)] rfl ?_
            refine dl (t := 29) 8 [.c (.box 0 8)] rfl ?_
            refine dl (t := 30) 9 [.c (.box 0 11)] rfl ?_
            refine dl (t := 31) 10 [.c (.pv (.int .i64 a0.f_e.Var))] rfl ?_
            obtain ⟨v3, k7, h⟩ := bindE h
            refine dl (t := 32) 11 [.agg [.pv (.int .i64 v3.Lo), .pv (.int .i64 v3.Hi)]] rfl ?_
            obtain ⟨v5, k9, h⟩ := bindE h
            refine dl (t := 33) 12 [.agg (bs (e_num_Num v5))] rfl ?_
            refine dl (t := 34) 13 [.c (.box 0 0)] rfl ?_
            refine dl (t := 35) 14 [.c (.box 0 27)] rfl ?_
            refine dl (t := 36) 15 [.c (.box 0 27)] rfl ?_
            obtain ⟨v6, k10, h⟩ := bindE h
            refine d_store (cs' := ([.pv (.sl (List.map e_check_Chan v6.f_w.S.Chans)), .pv (.sl (List.map e_flow_Graph v6.f_w.S.Graphs)), .pv (.sl (List.map e_i64 v6.f_w.S.Vars)), .pv (.sl (List.map e_queue_Elem v6.f_w.Elems)), .pv (.sl (List.map e_bool v6.f_w.Deaf)), .pv (.int .i64 v6.f_proc), .pv (.sl (List.map e_i64 v6.f_out)), .pv (.int .i64 v6.f_at), .pv (.int .i64 v6.f_e.From), .pv (.int .i64 v6.f_e.To), .pv (.int .i64 v6.f_e.Kind), .pv (.int .i64 v6.f_e.Var), .pv (.int .i64 v6.f_e.Chan), .pv (.int .i64 v6.f_e.Tag), .pv (.int .i64 v6.f_e.E.Kind), .pv (.int .i64 v6.f_e.E.Num), .pv (.int .i64 v6.f_e.E.Var), .pv (.sl (List.map e_check_Expr v6.f_e.E.Kids)), .pv (.int .i64 v6.f_e.C.Op), .pv (.int .i64 v6.f_e.C.L.Kind), .pv (.int .i64 v6.f_e.C.L.Num), .pv (.int .i64 v6.f_e.C.L.Var), .pv (.sl (List.map e_check_Expr v6.f_e.C.L.Kids)), .pv (.int .i64 v6.f_e.C.R.Kind), .pv (.int .i64 v6.f_e.C.R.Num), .pv (.int .i64 v6.f_e.C.R.Var), .pv (.sl (List.map e_check_Expr v6.f_e.C.R.Kids)), .pv (.bool v6.f_a.N.None), .pv (.sl (List.map e_itv_Itv v6.f_a.N.I)), .pv (.int .i64 v6.f_a.N.Z.N), .pv (.bool v6.f_a.N.Z.None)] ++ (bs (e_T42 v6.f_a.N.Z.D) ++ ([.row 1, .row 2, .pv (.int .i64 v6.f_sent.Chan), .pv (.int .i64 v6.f_sent.Tag), .pv (.int .i64 v6.f_sent.Vals.Lo), .pv (.int .i64 v6.f_sent.Vals.Hi)] ++ bs (e_T92 v6.f_errors))))) (wm [0, 0, 2, 6, 14, 30, 0, 64, 192, 448, 960, 0, 4094, 8191, 16383, 32767, 65535]) 16 rfl (by kernel_rfl) (by kernel_rfl) (by kernel_rfl) (by kernel_rfl) (by kernel_rfl) (gi0 rfl) (oE tbok [] 3 (by kernel_rfl) (oL [] rfl (by kernel_rfl) (fl_call rfl Try.call21 rfl (by kernel_rfl) (by kernel_rfl) (num_Set_meets k9)) (oL [] rfl (by kernel_rfl) (fl_call rfl Try.call44 rfl (by kernel_rfl) (by kernel_rfl) (itv_All_meets k7)) (oE tbok [] 11 (by kernel_rfl) trivial)))) rfl rfl ty46 rfl rfl rfl rfl rfl rfl (by rw [← retE k10]; kernel_rfl) (SetAt.eq .z) ?_
            refine d_endS (env2 := [(0, [.c (.box 0 0)])]) (wm [0, 0, 2, 6, 14, 30, 0, 64, 192, 448, 960, 0, 4094, 8191, 16383, 32767, 65535]) (by kernel_rfl) (by kernel_rfl) (by kernel_rfl) (oN 17 (by kernel_rfl) trivial) (sub_cons rfl sub_nil) (wB wM) ?_
            refine bN ?_
            obtain rfl := retE h
            refine mN ?_
            refine (w_freeze (b := 1) (env' := [(0, [.c (.box 0 0)])]) (st' := [some (.box true 94 ([.pv (.sl (List.map e_check_Chan v6.f_w.S.Chans)), .pv (.sl (List.map e_flow_Graph v6.f_w.S.Graphs)), .pv (.sl (List.map e_i64 v6.f_w.S.Vars)), .pv (.sl (List.map e_queue_Elem v6.f_w.Elems)), .pv (.sl (List.map e_bool v6.f_w.Deaf)), .pv (.int .i64 v6.f_proc), .pv (.sl (List.map e_i64 v6.f_out)), .pv (.int .i64 v6.f_at), .pv (.int .i64 v6.f_e.From), .pv (.int .i64 v6.f_e.To), .pv (.int .i64 v6.f_e.Kind), .pv (.int .i64 v6.f_e.Var), .pv (.int .i64 v6.f_e.Chan), .pv (.int .i64 v6.f_e.Tag), .pv (.int .i64 v6.f_e.E.Kind), .pv (.int .i64 v6.f_e.E.Num), .pv (.int .i64 v6.f_e.E.Var), .pv (.sl (List.map e_check_Expr v6.f_e.E.Kids)), .pv (.int .i64 v6.f_e.C.Op), .pv (.int .i64 v6.f_e.C.L.Kind), .pv (.int .i64 v6.f_e.C.L.Num), .pv (.int .i64 v6.f_e.C.L.Var), .pv (.sl (List.map e_check_Expr v6.f_e.C.L.Kids)), .pv (.int .i64 v6.f_e.C.R.Kind), .pv (.int .i64 v6.f_e.C.R.Num), .pv (.int .i64 v6.f_e.C.R.Var), .pv (.sl (List.map e_check_Expr v6.f_e.C.R.Kids)), .pv (.bool v6.f_a.N.None), .pv (.sl (List.map e_itv_Itv v6.f_a.N.I)), .pv (.int .i64 v6.f_a.N.Z.N), .pv (.bool v6.f_a.N.Z.None)] ++ (bs (e_T42 v6.f_a.N.Z.D) ++ ([.pv (.sl (List.map e_itv_Itv a0.f_a.Counts)), .row 2, .pv (.int .i64 v6.f_sent.Chan), .pv (.int .i64 v6.f_sent.Tag), .pv (.int .i64 v6.f_sent.Vals.Lo), .pv (.int .i64 v6.f_sent.Vals.Hi)] ++ bs (e_T92 v6.f_errors))))), none, some (.row true false 85 1 (List.map e_rule_Set a0.f_a.Rules))]) rfl rfl rfl ?_)
            refine (w_freeze (b := 2) (env' := [(0, [.c (.box 0 0)])]) (st' := [some (.box true 94 (bs (e_trans_stepper (trans_stepper.mk v6.f_w v6.f_proc v6.f_out v6.f_at v6.f_e (trans_State.mk v6.f_a.N a0.f_a.Counts a0.f_a.Rules) v6.f_sent v6.f_errors)))), none, none]) rfl rfl rfl ?_)
            exact wkE (by kernel_rfl) (by kernel_rfl)
          · have h := iteF h k5
            refine seq_ ?_
            refine region_ ?_
            refine R tbok 2 [37, 6, 0] [(37, [.c (.pv (.bool (a0.f_e.Kind == 3)))]), (6, [.c (.pv (.int .i64 a0.f_e.Kind))]), (0, [.c (.box 0 0)])] (by kernel_rfl) ?_
            refine ops_nil ?_
            refine then_ ?_
            refine cond_ (b := (a0.f_e.Kind == 3)) rfl (fun k11 => ?_) (fun k11 => ?_)
            · have h := iteT h k11
              refine region_ ?_
              refine R tbok 1 [39, 0] [(39, [.c (.box 0 0)]), (0, [.c (.box 0 0)])] (by kernel_rfl) ?_
              obtain ⟨v7, k12, h⟩ := bindE h
              refine callS (env' := [(39, [.c (.box 0 0)]), (0, [.c (.box 0 0)])]) (argsX' := []) (st' := [some (.box true 94 (bs (e_trans_stepper v7))), none, none]) [0, 1, 2] [] rfl rfl rfl rfl Try.call45 rfl rfl (by kernel_rfl) (by kernel_rfl) (trans_stepper_send_meets k12) (by kernel_rfl) (by kernel_rfl) (by kernel_rfl) ?_
              refine ops_nil ?_
              refine bN ?_
              obtain rfl := retE h
              refine mN ?_
              refine w_sub (env' := [(0, [.c (.box 0 0)])]) (sub_cons rfl sub_nil) ?_
              exact wkE (by kernel_rfl) (by kernel_rfl)
            · have h := iteF h k11
              refine seq_ ?_
              refine region_ ?_
              refine R tbok 2 [41, 0] [(41, [.c (.pv (.bool (a0.f_e.Kind == 4)))]), (0, [.c (.box 0 0)])] (by kernel_rfl) ?_
              refine ops_nil ?_
              refine then_ ?_
              refine cond_ (b := (a0.f_e.Kind == 4)) rfl (fun k13 => ?_) (fun k13 => ?_)
              · have h := iteT h k13
                refine region_ ?_
                refine R tbok 1 [43, 0] [(43, [.c (.box 0 0)]), (0, [.c (.box 0 0)])] (by kernel_rfl) ?_
                cases h
              · have h := iteF h k13
                refine skip_ ?_
                refine bN ?_
                obtain rfl := retE h
                refine mN ?_
                refine w_sub (env' := [(0, [.c (.box 0 0)])]) (sub_cons rfl sub_nil) ?_
                refine (w_freeze (b := 1) (env' := [(0, [.c (.box 0 0)])]) (st' := [some (.box true 94 ([.pv (.sl (List.map e_check_Chan a0.f_w.S.Chans)), .pv (.sl (List.map e_flow_Graph a0.f_w.S.Graphs)), .pv (.sl (List.map e_i64 a0.f_w.S.Vars)), .pv (.sl (List.map e_queue_Elem a0.f_w.Elems)), .pv (.sl (List.map e_bool a0.f_w.Deaf)), .pv (.int .i64 a0.f_proc), .pv (.sl (List.map e_i64 a0.f_out)), .pv (.int .i64 a0.f_at), .pv (.int .i64 a0.f_e.From), .pv (.int .i64 a0.f_e.To), .pv (.int .i64 a0.f_e.Kind), .pv (.int .i64 a0.f_e.Var), .pv (.int .i64 a0.f_e.Chan), .pv (.int .i64 a0.f_e.Tag), .pv (.int .i64 a0.f_e.E.Kind), .pv (.int .i64 a0.f_e.E.Num), .pv (.int .i64 a0.f_e.E.Var), .pv (.sl (List.map e_check_Expr a0.f_e.E.Kids)), .pv (.int .i64 a0.f_e.C.Op), .pv (.int .i64 a0.f_e.C.L.Kind), .pv (.int .i64 a0.f_e.C.L.Num), .pv (.int .i64 a0.f_e.C.L.Var), .pv (.sl (List.map e_check_Expr a0.f_e.C.L.Kids)), .pv (.int .i64 a0.f_e.C.R.Kind), .pv (.int .i64 a0.f_e.C.R.Num), .pv (.int .i64 a0.f_e.C.R.Var), .pv (.sl (List.map e_check_Expr a0.f_e.C.R.Kids)), .pv (.bool a0.f_a.N.None), .pv (.sl (List.map e_itv_Itv a0.f_a.N.I)), .pv (.int .i64 a0.f_a.N.Z.N), .pv (.bool a0.f_a.N.Z.None)] ++ (bs (e_T42 a0.f_a.N.Z.D) ++ ([.pv (.sl (List.map e_itv_Itv a0.f_a.Counts)), .row 2, .pv (.int .i64 a0.f_sent.Chan), .pv (.int .i64 a0.f_sent.Tag), .pv (.int .i64 a0.f_sent.Vals.Lo), .pv (.int .i64 a0.f_sent.Vals.Hi)] ++ bs (e_T92 a0.f_errors))))), none, some (.row true false 85 1 (List.map e_rule_Set a0.f_a.Rules))]) rfl rfl rfl ?_)
                refine (w_freeze (b := 2) (env' := [(0, [.c (.box 0 0)])]) (st' := [some (.box true 94 (bs (e_trans_stepper a0))), none, none]) rfl rfl rfl ?_)
                exact wkE (by kernel_rfl) (by kernel_rfl)
  · refine then_ ?_
    refine seq_ ?_
    refine region_ ?_
    refine R tbok 4 [48, 0] [(48, [.agg (bs (e_trans_State j1.f_a))]), (0, [.c (.box 0 0)])] (by kernel_rfl) ?_
    obtain ⟨v8, k14, h⟩ := bindE h
    refine C rfl rfl (fl_call rfl Try.call10 rfl (by kernel_rfl) (by kernel_rfl) (trans_Empty_meets k14)) rfl ?_
    refine ops_nil ?_
    refine then_ ?_
    refine cond_ (b := v8) rfl (fun k15 => ?_) (fun k15 => ?_)
    · have h := iteT h k15
      refine region_ ?_
      refine R tbok 1 [50] [(50, [.c (.box 0 0)])] (by kernel_rfl) ?_
      obtain ⟨v9, k16, h⟩ := bindE h
      refine callS (env' := [(50, [.c (.box 0 0)])]) (argsX' := []) (st' := [some (.box true 94 (bs (e_trans_stepper v9))), none, none]) [0] [] rfl rfl rfl rfl Try.call47 rfl rfl (by kernel_rfl) (by kernel_rfl) (trans_stepper_stops_2_meets k16) (by kernel_rfl) (by kernel_rfl) (by kernel_rfl) ?_
      refine ops_nil ?_
      obtain rfl := retE h
      refine rwn .nil ?_
      exact wkE (by kernel_rfl) (by kernel_rfl)
    · have h := iteF h k15
      refine skip_ ?_
      obtain rfl := retE h
      refine rwn .nil ?_
      exact wkE (by kernel_rfl) (by kernel_rfl)

theorem trans_stepper_kinds_meets {a0 : trans_stepper} {r : (List Int)} (h : trans_stepper_kinds a0 = some r) : MeetsS Try.prog GG 27 [.c (.box 0 0)] [some (.box false 94 (bs (e_trans_stepper a0)))] [.c (.pv (.sl (List.map e_i64 r)))] [some (.box false 94 (bs (e_trans_stepper a0)))] := by
  refine meetsW_of (N := 21) r_trans_stepper_kinds (o_trans_stepper_kinds a0) r Try.func27 rfl rfl rfl (by dsimp only [argEnv]) rfl ?_
  unfold trans_stepper_kinds at h
  refine seq_ ?_
  refine region_ ?_
  refine R tbok 1 [2, 0] [(2, [.c (.emp)]), (0, [.c (.box 0 0)])] (by kernel_rfl) ?_
  refine ops_nil ?_
  refine then_ ?_
  refine seq_ ?_
  refine region_ ?_
  refine R tbok 1 [3, 2, 0] [(3, [.c (.emp)]), (2, [.c (.emp)]), (0, [.c (.box 0 0)])] (by kernel_rfl) ?_
  refine ops_nil ?_
  refine then_ ?_
  refine seq_ ?_
  refine seq_ ?_
  refine region_ ?_
  refine R tbok 5 [10, 9, 3, 2] [(10, [.c (.pv (.int .i64 0))]), (9, [.agg (bs (e_T92 a0.f_errors))]), (3, [.c (.emp)]), (2, [.c (.emp)])] (by kernel_rfl) ?_
  refine ops_nil ?_
  refine then_ ?_
  refine CodeT.weak (w_lift 3 3 1 rfl (.s .z) (Weak.refl _)) ?_
  refine lp_ (Qr := RW Try.prog GG Try.f27 1 r_trans_stepper_kinds (o_trans_stepper_kinds a0)) (trans_stepper_kinds_l2 a0) (fun (x2 : (Int × (List Int))) => (⟨21, 1, [(3, [.c (.row 1)]), (9, [.agg (bs (e_T92 a0.f_errors))]), (10, [.c (.pv (.int .i64 x2.1))])], [some (.box false 94 (bs (e_trans_stepper a0))), some (.row true true 3 1 (List.map e_i64 x2.2))]⟩ : Sx)) (fun (j2 : (List Int)) => (⟨21, 1, [(3, [.c (.row 1)])], [some (.box false 94 (bs (e_trans_stepper a0))), some (.row true true 3 1 (List.map e_i64 j2))]⟩ : Sx)) (0, []) RW.only h wT ?_ (fun x2 o h => ?_) (fun r h s' hs => ?_) (fun j2 h => ?_)
  · refine w_sub (env' := [(3, [.c (.row 1)]), (9, [.agg (bs (e_T92 a0.f_errors))]), (10, [.c (.pv (.int .i64 0))])]) (sub_cons rfl (sub_cons rfl (sub_cons rfl sub_nil))) ?_
    refine w_ch 1 rfl (.s .z) ?_
    exact wkE (by kernel_rfl) (by kernel_rfl)
  · unfold trans_stepper_kinds_l2 at h
    refine seq_ ?_
    refine region_ ?_
    refine R tbok 1 [11, 3, 9, 10] [(11, [.c (.pv (.bool (decide (x2.1 < 7))))]), (3, [.c (.row 1)]), (9, [.agg (bs (e_T92 a0.f_errors))]), (10, [.c (.pv (.int .i64 x2.1))])] (by kernel_rfl) ?_
    refine ops_nil ?_
    refine then_ ?_
    refine seq_ ?_
    refine cond_ (b := (decide (x2.1 < 7))) rfl (fun k1 => ?_) (fun k1 => ?_)
    · have h := iteT h k1
      refine skip_ ?_
      refine then_ ?_
      refine seq_ ?_
      refine jn_ (fun (j3 : (List Int)) => (⟨21, 1, [(3, [.c (.row 1)]), (9, [.agg (bs (e_T92 a0.f_errors))]), (10, [.c (.pv (.int .i64 x2.1))])], [some (.box false 94 (bs (e_trans_stepper a0))), some (.row true true 3 1 (List.map e_i64 j3))]⟩ : Sx)) h wT (fun o h => ?_) (fun j3 h => ?_)
      · refine block_ ?_
        refine seq_ ?_
        refine region_ ?_
        refine R tbok 1 [12, 3, 9, 10] [(12, [.c (.pv (.int .i64 x2.1))]), (3, [.c (.row 1)]), (9, [.agg (bs (e_T92 a0.f_errors))]), (10, [.c (.pv (.int .i64 x2.1))])] (by kernel_rfl) ?_
        obtain ⟨v1, k2, h⟩ := bindE h
        refine L rfl rfl (ix1 (e := PV.bool) (D := a0.f_errors) rfl u92 ty4 rfl rfl (by kernel_rfl) k2) rfl ?_
        refine R tbok 2 [5, 4, 3, 9, 10] [(5, [.c (.pv (.bool (a0.f_errors v1)))]), (4, [.c (.pv (.int .i64 x2.1))]), (3, [.c (.row 1)]), (9, [.agg (bs (e_T92 a0.f_errors))]), (10, [.c (.pv (.int .i64 x2.1))])] (by kernel_rfl) ?_
        refine ops_nil ?_
        refine then_ ?_
        refine seq_ ?_
        refine region_ ?_
        refine R tbok 1 [14, 4, 3, 9, 10] [(14, [.c (.pv (.bool (a0.f_errors v1)))]), (4, [.c (.pv (.int .i64 x2.1))]), (3, [.c (.row 1)]), (9, [.agg (bs (e_T92 a0.f_errors))]), (10, [.c (.pv (.int .i64 x2.1))])] (by kernel_rfl) ?_
        refine ops_nil ?_
        refine then_ ?_
        refine cond_ (b := (a0.f_errors v1)) rfl (fun k3 => ?_) (fun k3 => ?_)
        · have h := iteT h k3
          refine region_ ?_
          refine R tbok 2 [16, 15, 3, 9, 10] [(16, [.c (.pv (.int .i64 x2.1))]), (15, [.c (.row 1)]), (3, [.c (.row 1)]), (9, [.agg (bs (e_T92 a0.f_errors))]), (10, [.c (.pv (.int .i64 x2.1))])] (by kernel_rfl) ?_
          refine C rfl rfl (fl_slice (List.map e_i64 [x2.1]) rfl sl33 rfl rfl rfl rfl rfl rfl rfl) rfl ?_
          obtain ⟨v2, k4, h⟩ := bindE h
          refine app_ (e := e_i64) (M := [x2.1]) (env' := [(17, [.c (.pv (.sl (List.map e_i64 [x2.1])))]), (16, [.c (.pv (.int .i64 x2.1))]), (15, [.c (.any)]), (3, [.c (.any)]), (9, [.agg (bs (e_T92 a0.f_errors))]), (10, [.c (.pv (.int .i64 x2.1))])]) (st' := [some (.box false 94 (bs (e_trans_stepper a0))), some (.row true true 3 1 (List.map e_i64 v2))]) rfl rfl rfl rfl u33 te3 (by decide) rfl rfl rfl (.sl _) (fun _ => rfl) k4 rfl rfl ?_
          refine R tbok 1 [3, 9, 10] [(3, [.c (.row 1)]), (9, [.agg (bs (e_T92 a0.f_errors))]), (10, [.c (.pv (.int .i64 x2.1))])] (by kernel_rfl) ?_
          refine ops_nil ?_
          refine bN ?_
          obtain rfl := retE h
          refine mN ?_
          exact wkE (by kernel_rfl) (by kernel_rfl)
        · have h := iteF h k3
          refine skip_ ?_
          refine bN ?_
          obtain rfl := retE h
          refine mN ?_
          refine w_sub (env' := [(3, [.c (.row 1)]), (9, [.agg (bs (e_T92 a0.f_errors))]), (10, [.c (.pv (.int .i64 x2.1))])]) (sub_cons rfl (sub_cons rfl (sub_cons rfl sub_nil))) ?_
          exact wkE (by kernel_rfl) (by kernel_rfl)
      · refine then_ ?_
        refine region_ ?_
        refine R tbok 2 [10, 3, 9] [(10, [.c (.pv (.int .i64 (IntKind.i64.wrap (x2.1 + 1))))]), (3, [.c (.row 1)]), (9, [.agg (bs (e_T92 a0.f_errors))])] (by kernel_rfl) ?_
        refine ops_nil ?_
        obtain rfl := retE h
        refine lN ?_
        refine w_sub (env' := [(3, [.c (.row 1)]), (9, [.agg (bs (e_T92 a0.f_errors))]), (10, [.c (.pv (.int .i64 (IntKind.i64.wrap (x2.1 + 1))))])]) (sub_cons rfl (sub_cons rfl (sub_cons rfl sub_nil))) ?_
        exact wkE (by kernel_rfl) (by kernel_rfl)
    · have h := iteF h k1
      refine exit_ ?_
      refine tX ?_
      obtain rfl := retE h
      refine lX ?_
      refine w_sub (env' := [(3, [.c (.row 1)])]) (sub_cons rfl sub_nil) ?_
      exact wkE (by kernel_rfl) (by kernel_rfl)
  · cases h
  · have h := elimR h
    refine then_ ?_
    refine seq_ ?_
    refine region_ ?_
    refine R tbok 2 [2] [(2, [.c (.row 1)])] (by kernel_rfl) ?_
    refine ops_nil ?_
    refine then_ ?_
    refine ret_ ?_
    obtain rfl := retE h
    refine rwr (rw_ (.tmp rfl .nil) ?_)
    refine (w_freeze (b := 1) (env' := [(0, [.c (.pv (.sl (List.map e_i64 j2)))])]) (st' := [some (.box false 94 (bs (e_trans_stepper a0))), none]) rfl rfl rfl ?_)
    refine w_cut 1 rfl rfl rfl rfl ?_
    exact wkE (by kernel_rfl) (by kernel_rfl)

theorem trans_Step_meets {a0 : trans_World} {a1 : Int} {a2 : Int} {a3 : trans_State} {r : (trans_State × trans_Sent × (List Int))} (h : trans_Step a0 a1 a2 a3 = some r) : MeetsV Try.prog GG 8 [.agg [.pv (.sl (List.map e_check_Chan a0.S.Chans)), .pv (.sl (List.map e_flow_Graph a0.S.Graphs)), .pv (.sl (List.map e_i64 a0.S.Vars)), .pv (.sl (List.map e_queue_Elem a0.Elems)), .pv (.sl (List.map e_bool a0.Deaf))], .c (.pv (.int .i64 a1)), .c (.pv (.int .i64 a2)), .agg (bs (e_trans_State a3))] [.agg (bs (e_trans_State r.1)), .agg [.pv (.int .i64 r.2.1.Chan), .pv (.int .i64 r.2.1.Tag), .pv (.int .i64 r.2.1.Vals.Lo), .pv (.int .i64 r.2.1.Vals.Hi)], .c (.pv (.sl (List.map e_i64 r.2.2)))] := by
  refine MeetsS.toV (meetsW_of (st0 := []) (N := 91) r_trans_Step o_trans_Step r Try.func8 rfl rfl rfl (by dsimp only [argEnv]) rfl ?_) rfl
  unfold trans_Step at h
  refine seq_ ?_
  refine region_ ?_
  refine B rfl rfl (bir_box rfl rfl rfl) rfl rfl .z ?_
  refine B rfl rfl (bir_box rfl rfl rfl) rfl rfl (.s .z) ?_
  refine B rfl rfl (bir_alloc rfl z49 rfl rfl) rfl rfl (.s (.s .z)) ?_
  refine B rfl rfl (bir_alloc rfl z55 rfl rfl) rfl rfl (.s (.s (.s .z))) ?_
  refine R tbok 1 [10, 9, 8, 7, 4, 1, 2] [(10, [.c (.emp)]), (9, [.c (.box 3 0)]), (8, [.c (.box 2 0)]), (7, [.c (.box 1 0)]), (4, [.c (.box 0 0)]), (1, [.c (.pv (.int .i64 a1))]), (2, [.c (.pv (.int .i64 a2))])] (by kernel_rfl) ?_
  refine ops_nil ?_
  refine then_ ?_
  refine seq_ ?_
  refine region_ ?_
  obtain ⟨v1, k1, h⟩ := bindE h
  refine C rfl rfl (fl_call rfl Try.call22 rfl (by kernel_rfl) (by kernel_rfl) (itv_None_meets k1)) rfl ?_
  refine L rfl rfl (lt_build (cs := [.pv (.int .i64 (-1)), .pv (.int .i64 0), .pv (.int .i64 v1.Lo), .pv (.int .i64 v1.Hi)]) rfl st55 rfl (by kernel_rfl)) rfl ?_
  refine B rfl rfl (bir_alloc rfl z55 rfl rfl) rfl rfl (.s (.s (.s (.s .z)))) ?_
  refine S rfl rfl rfl ty55 (by decide) rfl rfl rfl rfl rfl (.all rfl) (.s (.s (.s (.s .z)))) ?_
  refine ops_nil ?_
  refine then_ ?_
  refine seq_ ?_
  refine seq_ ?_
  refine jn_ (fun (j1 : Bool) => (⟨91, 0, [(1, [.c (.pv (.int .i64 a1))]), (2, [.c (.pv (.int .i64 a2))]), (4, [.c (.box 0 0)]), (7, [.c (.box 1 0)]), (8, [.c (.box 2 0)]), (9, [.c (.box 3 0)]), (10, [.c (.emp)]), (11, [.c (.box 4 0)]), (45, [.c (.pv (.bool j1))])], [some (.box true 61 [.pv (.sl (List.map e_check_Chan a0.S.Chans)), .pv (.sl (List.map e_flow_Graph a0.S.Graphs)), .pv (.sl (List.map e_i64 a0.S.Vars)), .pv (.sl (List.map e_queue_Elem a0.Elems)), .pv (.sl (List.map e_bool a0.Deaf))]), some (.box true 49 (bs (e_trans_State a3))), some (.box true 49 ([.pv (.bool false), .emp, .pv (.int .i64 0), .pv (.bool false)] ++ (bs (e_T42 (arr (arr 0 []) [(arr 0 [0, 0, 0, 0, 0, 0, 0]), (arr 0 [0, 0, 0, 0, 0, 0, 0]), (arr 0 [0, 0, 0, 0, 0, 0, 0]), (arr 0 [0, 0, 0, 0, 0, 0, 0]), (arr 0 [0, 0, 0, 0, 0, 0, 0]), (arr 0 [0, 0, 0, 0, 0, 0, 0]), (arr 0 [0, 0, 0, 0, 0, 0, 0])])) ++ [.emp, .emp]))), some (.box true 55 [.pv (.int .i64 0), .pv (.int .i64 0), .pv (.int .i64 0), .pv (.int .i64 0)]), some (.box true 55 [.pv (.int .i64 (-1)), .pv (.int .i64 0), .pv (.int .i64 v1.Lo), .pv (.int .i64 v1.Hi)])]⟩ : Sx)) h wT (fun o h => ?_) (fun j1 h => ?_)
  · refine region_ ?_
    refine R tbok 3 [18, 11, 10, 9, 8, 7, 4, 1, 2] [(18, [.c (.pv (.bool (decide (a1 < 0))))]), (11, [.c (.box 4 0)]), (10, [.c (.emp)]), (9, [.c (.box 3 0)]), (8, [.c (.box 2 0)]), (7, [.c (.box 1 0)]), (4, [.c (.box 0 0)]), (1, [.c (.pv (.int .i64 a1))]), (2, [.c (.pv (.int .i64 a2))])] (by kernel_rfl) ?_
    refine (tf (decide (a1 < 0))).elim (fun k2 => ?_) (fun k2 => ?_)
    · have h := iteT h k2
      refine Ls0 rfl rfl rfl k2 rfl rfl ?_
      refine Ls0 rfl rfl rfl k2 rfl rfl ?_
      refine Ls0 rfl rfl rfl k2 rfl rfl ?_
      refine Ls0 rfl rfl rfl k2 rfl rfl ?_
      refine Ls0 rfl rfl rfl k2 rfl rfl ?_
      refine Ls0 rfl rfl rfl k2 rfl rfl ?_
      refine L rfl rfl (lt_pickT rfl rfl k2 rfl) rfl ?_
      refine R tbok 1 [26, 11, 10, 9, 8, 7, 4, 1, 2] [(26, [.c (.pv (.bool true))]), (11, [.c (.box 4 0)]), (10, [.c (.emp)]), (9, [.c (.box 3 0)]), (8, [.c (.box 2 0)]), (7, [.c (.box 1 0)]), (4, [.c (.box 0 0)]), (1, [.c (.pv (.int .i64 a1))]), (2, [.c (.pv (.int .i64 a2))])] (by kernel_rfl) ?_
      refine Ls0 rfl rfl rfl rfl rfl rfl ?_
      refine Ls0 rfl rfl rfl rfl rfl rfl ?_
      refine L rfl rfl (lt_pickT rfl rfl rfl rfl) rfl ?_
      refine R tbok 1 [30, 11, 10, 9, 8, 7, 4, 1, 2] [(30, [.c (.pv (.bool true))]), (11, [.c (.box 4 0)]), (10, [.c (.emp)]), (9, [.c (.box 3 0)]), (8, [.c (.box 2 0)]), (7, [.c (.box 1 0)]), (4, [.c (.box 0 0)]), (1, [.c (.pv (.int .i64 a1))]), (2, [.c (.pv (.int .i64 a2))])] (by kernel_rfl) ?_
      refine Ls0 rfl rfl rfl rfl rfl rfl ?_
      refine Ls0 rfl rfl rfl rfl rfl rfl ?_
      refine Ls0 rfl rfl rfl rfl rfl rfl ?_
      refine Ls0 rfl rfl rfl rfl rfl rfl ?_
      refine Ls0 rfl rfl rfl rfl rfl rfl ?_
      refine Ls0 rfl rfl rfl rfl rfl rfl ?_
      refine Ls0 rfl rfl rfl rfl rfl rfl ?_
      refine Ls0 rfl rfl rfl rfl rfl rfl ?_
      refine Ls0 rfl rfl rfl rfl rfl rfl ?_
      refine Ls0 rfl rfl rfl rfl rfl rfl ?_
      refine L rfl rfl (lt_pickT rfl rfl rfl rfl) rfl ?_
      refine R tbok 1 [42, 11, 10, 9, 8, 7, 4, 1, 2] [(42, [.c (.pv (.bool true))]), (11, [.c (.box 4 0)]), (10, [.c (.emp)]), (9, [.c (.box 3 0)]), (8, [.c (.box 2 0)]), (7, [.c (.box 1 0)]), (4, [.c (.box 0 0)]), (1, [.c (.pv (.int .i64 a1))]), (2, [.c (.pv (.int .i64 a2))])] (by kernel_rfl) ?_
      refine Ls0 rfl rfl rfl rfl rfl rfl ?_
      refine Ls0 rfl rfl rfl rfl rfl rfl ?_
      refine L rfl rfl (lt_pickT rfl rfl rfl rfl) rfl ?_
      refine ops_nil ?_
      obtain rfl := retE h
      refine mN ?_
      refine w_sub (env' := [(1, [.c (.pv (.int .i64 a1))]), (2, [.c (.pv (.int .i64 a2))]), (4, [.c (.box 0 0)]), (7, [.c (.box 1 0)]), (8, [.c (.box 2 0)]), (9, [.c (.box 3 0)]), (10, [.c (.emp)]), (11, [.c (.box 4 0)]), (45, [.c (.pv (.bool true))])]) (sub_cons rfl (sub_cons rfl (sub_cons rfl (sub_cons rfl (sub_cons rfl (sub_cons rfl (sub_cons rfl (sub_cons rfl (sub_cons rfl sub_nil))))))))) ?_
      exact wkE (by kernel_rfl) (by kernel_rfl)
    · have h := iteF h k2
      refine Lg rfl rfl rfl k2 rfl (lt_move rfl rfl) rfl ?_
      refine Lg rfl rfl rfl k2 rfl (lt_fa_box rfl f61_0 ty39 (by decide) rfl) rfl ?_
      refine Lg rfl rfl rfl k2 rfl (lt_fa_box rfl f39_1 ty36 (by decide) rfl) rfl ?_
      refine Lg rfl rfl rfl k2 rfl (lt_load_box rfl ty36 rfl rfl rfl) rfl ?_
      refine Lg rfl rfl rfl k2 rfl (len_sl (e := e_flow_Graph) rfl u36 rfl) rfl ?_
      refine Lg rfl rfl rfl k2 rfl (lt_int rfl rfl rfl rfl) rfl ?_
      refine L rfl rfl (lt_pickF rfl rfl k2 rfl) rfl ?_
      refine R tbok 1 [26, 11, 10, 9, 8, 7, 4, 1, 2] [(26, [.c (.pv (.bool (decide (a1 ≥ (a0.S.Graphs.length : Int)))))]), (11, [.c (.box 4 0)]), (10, [.c (.emp)]), (9, [.c (.box 3 0)]), (8, [.c (.box 2 0)]), (7, [.c (.box 1 0)]), (4, [.c (.box 0 0)]), (1, [.c (.pv (.int .i64 a1))]), (2, [.c (.pv (.int .i64 a2))])] (by kernel_rfl) ?_
      refine (tf (decide (a1 ≥ (a0.S.Graphs.length : Int)))).elim (fun k3 => ?_) (fun k3 => ?_)
      · have h := iteT h k3
        refine Ls0 rfl rfl rfl k3 rfl rfl ?_
        refine Ls0 rfl rfl rfl k3 rfl rfl ?_
        refine L rfl rfl (lt_pickT rfl rfl k3 rfl) rfl ?_
        refine R tbok 1 [30, 11, 10, 9, 8, 7, 4, 1, 2] [(30, [.c (.pv (.bool true))]), (11, [.c (.box 4 0)]), (10, [.c (.emp)]), (9, [.c (.box 3 0)]), (8, [.c (.box 2 0)]), (7, [.c (.box 1 0)]), (4, [.c (.box 0 0)]), (1, [.c (.pv (.int .i64 a1))]), (2, [.c (.pv (.int .i64 a2))])] (by kernel_rfl) ?_
        refine Ls0 rfl rfl rfl rfl rfl rfl ?_
        refine Ls0 rfl rfl rfl rfl rfl rfl ?_
        refine Ls0 rfl rfl rfl rfl rfl rfl ?_
        refine Ls0 rfl rfl rfl rfl rfl rfl ?_
        refine Ls0 rfl rfl rfl rfl rfl rfl ?_
        refine Ls0 rfl rfl rfl rfl rfl rfl ?_
        refine Ls0 rfl rfl rfl rfl rfl rfl ?_
        refine Ls0 rfl rfl rfl rfl rfl rfl ?_
        refine Ls0 rfl rfl rfl rfl rfl rfl ?_
        refine Ls0 rfl rfl rfl rfl rfl rfl ?_
        refine L rfl rfl (lt_pickT rfl rfl rfl rfl) rfl ?_
        refine R tbok 1 [42, 11, 10, 9, 8, 7, 4, 1, 2] [(42, [.c (.pv (.bool true))]), (11, [.c (.box 4 0)]), (10, [.c (.emp)]), (9, [.c (.box 3 0)]), (8, [.c (.box 2 0)]), (7, [.c (.box 1 0)]), (4, [.c (.box 0 0)]), (1, [.c (.pv (.int .i64 a1))]), (2, [.c (.pv (.int .i64 a2))])] (by kernel_rfl) ?_
        refine Ls0 rfl rfl rfl rfl rfl rfl ?_
        refine Ls0 rfl rfl rfl rfl rfl rfl ?_
        refine L rfl rfl (lt_pickT rfl rfl rfl rfl) rfl ?_
        refine ops_nil ?_
        obtain rfl := retE h
        refine mN ?_
        refine w_sub (env' := [(1, [.c (.pv (.int .i64 a1))]), (2, [.c (.pv (.int .i64 a2))]), (4, [.c (.box 0 0)]), (7, [.c (.box 1 0)]), (8, [.c (.box 2 0)]), (9, [.c (.box 3 0)]), (10, [.c (.emp)]), (11, [.c (.box 4 0)]), (45, [.c (.pv (.bool true))])]) (sub_cons rfl (sub_cons rfl (sub_cons rfl (sub_cons rfl (sub_cons rfl (sub_cons rfl (sub_cons rfl (sub_cons rfl (sub_cons rfl sub_nil))))))))) ?_
        exact wkE (by kernel_rfl) (by kernel_rfl)
      · have h := iteF h k3
        refine Lg rfl rfl rfl k3 rfl (lt_move rfl rfl) rfl ?_
        refine Lg rfl rfl rfl k3 rfl (lt_int rfl rfl rfl rfl) rfl ?_
        refine L rfl rfl (lt_pickF rfl rfl k3 rfl) rfl ?_
        refine R tbok 1 [30, 11, 10, 9, 8, 7, 4, 1, 2] [(30, [.c (.pv (.bool (decide (a2 < 0))))]), (11, [.c (.box 4 0)]), (10, [.c (.emp)]), (9, [.c (.box 3 0)]), (8, [.c (.box 2 0)]), (7, [.c (.box 1 0)]), (4, [.c (.box 0 0)]), (1, [.c (.pv (.int .i64 a1))]), (2, [.c (.pv (.int .i64 a2))])] (by kernel_rfl) ?_
        refine (tf (decide (a2 < 0))).elim (fun k4 => ?_) (fun k4 => ?_)
        · have h := iteT h k4
          refine Ls0 rfl rfl rfl k4 rfl rfl ?_
          refine Ls0 rfl rfl rfl k4 rfl rfl ?_
          refine Ls0 rfl rfl rfl k4 rfl rfl ?_
          refine Ls0 rfl rfl rfl k4 rfl rfl ?_
          refine Ls0 rfl rfl rfl k4 rfl rfl ?_
          refine Ls0 rfl rfl rfl k4 rfl rfl ?_
          refine Ls0 rfl rfl rfl k4 rfl rfl ?_
          refine Ls0 rfl rfl rfl k4 rfl rfl ?_
          refine Ls0 rfl rfl rfl k4 rfl rfl ?_
          refine Ls0 rfl rfl rfl k4 rfl rfl ?_
          refine L rfl rfl (lt_pickT rfl rfl k4 rfl) rfl ?_
          refine R tbok 1 [42, 11, 10, 9, 8, 7, 4, 1, 2] [(42, [.c (.pv (.bool true))]), (11, [.c (.box 4 0)]), (10, [.c (.emp)]), (9, [.c (.box 3 0)]), (8, [.c (.box 2 0)]), (7, [.c (.box 1 0)]), (4, [.c (.box 0 0)]), (1, [.c (.pv (.int .i64 a1))]), (2, [.c (.pv (.int .i64 a2))])] (by kernel_rfl) ?_
          refine Ls0 rfl rfl rfl rfl rfl rfl ?_
          refine Ls0 rfl rfl rfl rfl rfl rfl ?_
          refine L rfl rfl (lt_pickT rfl rfl rfl rfl) rfl ?_
          refine ops_nil ?_
          obtain rfl := retE h
          refine mN ?_
          refine w_sub (env' := [(1, [.c (.pv (.int .i64 a1))]), (2, [.c (.pv (.int .i64 a2))]), (4, [.c (.box 0 0)]), (7, [.c (.box 1 0)]), (8, [.c (.box 2 0)]), (9, [.c (.box 3 0)]), (10, [.c (.emp)]), (11, [.c (.box 4 0)]), (45, [.c (.pv (.bool true))])]) (sub_cons rfl (sub_cons rfl (sub_cons rfl (sub_cons rfl (sub_cons rfl (sub_cons rfl (sub_cons rfl (sub_cons rfl (sub_cons rfl sub_nil))))))))) ?_
          exact wkE (by kernel_rfl) (by kernel_rfl)
        · have h := iteF h k4
          refine Lg rfl rfl rfl k4 rfl (lt_move rfl rfl) rfl ?_
          refine Lg rfl rfl rfl k4 rfl (lt_fa_box rfl f61_0 ty39 (by decide) rfl) rfl ?_
          refine Lg rfl rfl rfl k4 rfl (lt_fa_box rfl f39_1 ty36 (by decide) rfl) rfl ?_
          refine Lg rfl rfl rfl k4 rfl (lt_load_box rfl ty36 rfl rfl rfl) rfl ?_
          refine Lg rfl rfl rfl k4 rfl (lt_move rfl rfl) rfl ?_
          obtain ⟨v2, k5, h⟩ := bindE h
          refine Lg rfl rfl rfl k4 rfl (ia_sl (e := e_flow_Graph) (y := v2) rfl u36 ty35 rfl rfl k5 rfl) rfl ?_
          refine Lg rfl rfl rfl k4 rfl (lt_fa_ep rfl f35_1 ty32 (by decide) rfl rfl) rfl ?_
          refine Lg rfl rfl rfl k4 rfl (lt_load_ep rfl ty32 rfl) rfl ?_
          refine Lg rfl rfl rfl k4 rfl (len_sl (e := e_flow_Edge) rfl u32 rfl) rfl ?_
          refine Lg rfl rfl rfl k4 rfl (lt_int rfl rfl rfl rfl) rfl ?_
          refine L rfl rfl (lt_pickF rfl rfl k4 rfl) rfl ?_
          refine R tbok 1 [42, 11, 10, 9, 8, 7, 4, 1, 2] [(42, [.c (.pv (.bool (decide (a2 ≥ (v2.Edges.length : Int)))))]), (11, [.c (.box 4 0)]), (10, [.c (.emp)]), (9, [.c (.box 3 0)]), (8, [.c (.box 2 0)]), (7, [.c (.box 1 0)]), (4, [.c (.box 0 0)]), (1, [.c (.pv (.int .i64 a1))]), (2, [.c (.pv (.int .i64 a2))])] (by kernel_rfl) ?_
          refine (tf (decide (a2 ≥ (v2.Edges.length : Int)))).elim (fun k6 => ?_) (fun k6 => ?_)
          · have h := iteT h k6
            refine Ls0 rfl rfl rfl k6 rfl rfl ?_
            refine Ls0 rfl rfl rfl k6 rfl rfl ?_
            refine L rfl rfl (lt_pickT rfl rfl k6 rfl) rfl ?_
            refine ops_nil ?_
            obtain rfl := retE h
            refine mN ?_
            refine w_sub (env' := [(1, [.c (.pv (.int .i64 a1))]), (2, [.c (.pv (.int .i64 a2))]), (4, [.c (.box 0 0)]), (7, [.c (.box 1 0)]), (8, [.c (.box 2 0)]), (9, [.c (.box 3 0)]), (10, [.c (.emp)]), (11, [.c (.box 4 0)]), (45, [.c (.pv (.bool true))])]) (sub_cons rfl (sub_cons rfl (sub_cons rfl (sub_cons rfl (sub_cons rfl (sub_cons rfl (sub_cons rfl (sub_cons rfl (sub_cons rfl sub_nil))))))))) ?_
            exact wkE (by kernel_rfl) (by kernel_rfl)
          · have h := iteF h k6
            refine Lg rfl rfl rfl k6 rfl (lt_load_boxA (ys := (bs (e_trans_State a3))) rfl ty49 rfl rfl (by kernel_rfl) (by kernel_rfl)) rfl ?_
            obtain ⟨v3, k7, h⟩ := bindE h
            refine Hg rfl rfl rfl k6 rfl rfl (op_fl rfl rfl (fl_call rfl Try.call10 rfl (by kernel_rfl) (by kernel_rfl) (trans_Empty_meets k7)) ?_)
            refine L rfl rfl (lt_pickF rfl rfl k6 rfl) rfl ?_
            refine ops_nil ?_
            obtain rfl := retE h
            refine mN ?_
            refine w_sub (env' := [(1, [.c (.pv (.int .i64 a1))]), (2, [.c (.pv (.int .i64 a2))]), (4, [.c (.box 0 0)]), (7, [.c (.box 1 0)]), (8, [.c (.box 2 0)]), (9, [.c (.box 3 0)]), (10, [.c (.emp)]), (11, [.c (.box 4 0)]), (45, [.c (.pv (.bool v3))])]) (sub_cons rfl (sub_cons rfl (sub_cons rfl (sub_cons rfl (sub_cons rfl (sub_cons rfl (sub_cons rfl (sub_cons rfl (sub_cons rfl sub_nil))))))))) ?_
            exact wkE (by kernel_rfl) (by kernel_rfl)
  · refine then_ ?_
    refine cond_ (b := j1) rfl (fun k8 => ?_) (fun k8 => ?_)
    · have h := iteT h k8
      refine seq_ ?_
      refine drawn_ mixed ?_
      refine dl (t := 46) 0 [.c (.box 0 0)] rfl ?_
      refine dl (t := 47) 1 [.agg [.pv (.sl (List.map e_check_Chan a0.S.Chans)), .pv (.sl (List.map e_flow_Graph a0.S.Graphs)), .pv (.sl (List.map e_i64 a0.S.Vars))]] rfl ?_
      refine dl (t := 48) 2 [.c (.pv (.int .i64 a1))] rfl ?_
      obtain ⟨v5, k10, h⟩ := bindE h
      refine dl (t := 49) 3 [.agg (bs (e_trans_State v5))] rfl ?_
      refine dl (t := 50) 4 [.agg [.pv (.int .i64 (-1)), .pv (.int .i64 0), .pv (.int .i64 v1.Lo), .pv (.int .i64 v1.Hi)]] rfl ?_
      refine d_store (wm [0, 1, 0, 7, 0, 15, 63, 127]) 5 rfl (by kernel_rfl) (by kernel_rfl) (by kernel_rfl) (by kernel_rfl) (by kernel_rfl) (gi0 rfl) (oE tbok [] 1 (by kernel_rfl) (oL [] rfl (by kernel_rfl) (fl_call rfl Try.call23 rfl (by kernel_rfl) (by kernel_rfl) (trans_None_meets k10)) (oE tbok [] 3 (by kernel_rfl) trivial))) rfl rfl ty49 rfl rfl rfl rfl rfl rfl (putE 55 (.all rfl) rfl (by decide)) (SetAt.eq (.s (.s .z))) ?_
      refine d_store (wm [0, 1, 0, 7, 0, 15, 63, 127]) 6 rfl (by kernel_rfl) (by kernel_rfl) (by kernel_rfl) (by kernel_rfl) (by kernel_rfl) (gi0 rfl) (oN 1 (by kernel_rfl) (oE tbok [] 1 (by kernel_rfl) (oN 4 (by kernel_rfl) trivial))) rfl rfl ty55 rfl rfl rfl rfl rfl rfl (putE 4 (.all rfl) rfl (by decide)) (SetAt.eq (.s (.s (.s .z)))) ?_
      refine dl (t := 10) 7 [.c (.emp)] rfl ?_
      refine d_endS (env2 := [(10, [.c (.emp)]), (1, [.c (.pv (.int .i64 a1))]), (2, [.c (.pv (.int .i64 a2))]), (4, [.c (.box 0 0)]), (7, [.c (.box 1 0)]), (8, [.c (.box 2 0)]), (9, [.c (.box 3 0)]), (11, [.c (.box 4 0)])]) (wm [0, 1, 0, 7, 0, 15, 63, 127]) (by kernel_rfl) (by kernel_rfl) (by kernel_rfl) (oE tbok [] 1 (by kernel_rfl) (oN 7 (by kernel_rfl) trivial)) (sub_cons rfl (sub_cons rfl (sub_cons rfl (sub_cons rfl (sub_cons rfl (sub_cons rfl (sub_cons rfl (sub_cons rfl sub_nil)))))))) wT ?_
      refine then_ ?_
      refine ret_ ?_
      obtain rfl := retE h
      refine tR (rwr (rw_ (.cellA (ys := (bs (e_trans_State v5))) ty49 rfl rfl (by kernel_rfl) (by kernel_rfl) (.cellA (ys := [.pv (.int .i64 (-1)), .pv (.int .i64 0), .pv (.int .i64 v1.Lo), .pv (.int .i64 v1.Hi)]) ty55 rfl rfl (by kernel_rfl) (by kernel_rfl) (.tmp rfl .nil))) ?_))
      refine w_none 0 .z ?_
      refine w_none 1 (.s .z) ?_
      refine w_none 2 (.s (.s .z)) ?_
      refine w_none 3 (.s (.s (.s .z))) ?_
      refine w_none 4 (.s (.s (.s (.s .z)))) ?_
      refine w_nil (env' := [(0, [.agg (bs (e_trans_State v5)), .agg [.pv (.int .i64 (-1)), .pv (.int .i64 0), .pv (.int .i64 v1.Lo), .pv (.int .i64 v1.Hi)], .c (.pv (.sl (List.map e_i64 [])))])]) (st' := [none, none, none, none, none]) rfl rfl ?_
      refine w_cut 0 rfl rfl rfl rfl ?_
      exact wkE (by kernel_rfl) (by kernel_rfl)
    · have h := iteF h k8
      refine skip_ ?_
      refine then_ ?_
      refine seq_ ?_
      refine region_ ?_
      refine R tbok 4 [54, 53, 1, 2, 4, 7, 8, 9, 10, 11] [(54, [.c (.pv (.int .i64 a1))]), (53, [.c (.pv (.sl (List.map e_flow_Graph a0.S.Graphs)))]), (1, [.c (.pv (.int .i64 a1))]), (2, [.c (.pv (.int .i64 a2))]), (4, [.c (.box 0 0)]), (7, [.c (.box 1 0)]), (8, [.c (.box 2 0)]), (9, [.c (.box 3 0)]), (10, [.c (.emp)]), (11, [.c (.box 4 0)])] (by kernel_rfl) ?_
      obtain ⟨v6, k11, h⟩ := bindE h
      refine L rfl rfl (ia_sl (e := e_flow_Graph) (y := v6) rfl u36 ty35 rfl rfl k11 rfl) rfl ?_
      refine R tbok 3 [58, 57, 1, 2, 4, 7, 8, 9, 10, 11] [(58, [.c (.pv (.int .i64 a2))]), (57, [.c (.pv (.sl (List.map e_flow_Edge v6.Edges)))]), (1, [.c (.pv (.int .i64 a1))]), (2, [.c (.pv (.int .i64 a2))]), (4, [.c (.box 0 0)]), (7, [.c (.box 1 0)]), (8, [.c (.box 2 0)]), (9, [.c (.box 3 0)]), (10, [.c (.emp)]), (11, [.c (.box 4 0)])] (by kernel_rfl) ?_
      obtain ⟨v7, k12, h⟩ := bindE h
      refine L rfl rfl (ia_sl (e := e_flow_Edge) (y := v7) rfl u32 ty31 rfl rfl k12 rfl) rfl ?_
      refine R tbok 1 [60, 1, 2, 4, 7, 8, 9, 10, 11] [(60, [.agg (bs (e_flow_Edge v7))]), (1, [.c (.pv (.int .i64 a1))]), (2, [.c (.pv (.int .i64 a2))]), (4, [.c (.box 0 0)]), (7, [.c (.box 1 0)]), (8, [.c (.box 2 0)]), (9, [.c (.box 3 0)]), (10, [.c (.emp)]), (11, [.c (.box 4 0)])] (by kernel_rfl) ?_
      refine B rfl rfl (bir_alloc rfl z31 rfl rfl) rfl rfl (.s (.s (.s (.s (.s .z))))) ?_
      refine S rfl rfl rfl ty31 (by decide) rfl rfl rfl rfl rfl (.all rfl) (.s (.s (.s (.s (.s .z))))) ?_
      refine ops_nil ?_
      refine then_ ?_
      refine seq_ ?_
      refine drawn_ mixed ?_
      refine dl (t := 61) 0 [.agg [.pv (.sl (List.map e_check_Chan a0.S.Chans)), .pv (.sl (List.map e_flow_Graph a0.S.Graphs)), .pv (.sl (List.map e_i64 a0.S.Vars)), .pv (.sl (List.map e_queue_Elem a0.Elems)), .pv (.sl (List.map e_bool a0.Deaf))]] rfl ?_
      refine dl (t := 62) 1 [.c (.pv (.int .i64 a1))] rfl ?_
      refine dl (t := 63) 2 [.c (.box 0 0)] rfl ?_
      refine dl (t := 64) 3 [.c (.box 0 1)] rfl ?_
      refine dl (t := 65) 4 [.c (.pv (.sl (List.map e_flow_Graph a0.S.Graphs)))] rfl ?_
      refine dl (t := 66) 5 [.c (.pv (.int .i64 a1))] rfl ?_
      obtain ⟨v8, k13, h⟩ := bindE h
      refine dl (t := 67) 6 [.c (.ep [.int .i64 v8.Nodes, .sl (List.map e_flow_Edge v8.Edges), .sl (List.map e_i64 v8.Heads)])] rfl ?_
      refine dl (t := 68) 7 [.agg [.pv (.int .i64 v8.Nodes), .pv (.sl (List.map e_flow_Edge v8.Edges)), .pv (.sl (List.map e_i64 v8.Heads))]] rfl ?_
      refine dl (t := 69) 8 [.c (.box 5 0)] rfl ?_
      refine dl (t := 70) 9 [.c (.pv (.int .i64 v7.From))] rfl ?_
      obtain ⟨v10, k15, h⟩ := bindE h
      refine dl (t := 71) 10 [.c (.pv (.sl (List.map e_i64 v10)))] rfl ?_
      refine dl (t := 72) 11 [.c (.pv (.int .i64 a2))] rfl ?_
      refine dl (t := 73) 12 [.agg (bs (e_flow_Edge v7))] rfl ?_
      refine dl (t := 74) 13 [.agg (bs (e_trans_State a3))] rfl ?_
      refine dl (t := 76) 15 [.agg [.pv (.int .i64 (-1)), .pv (.int .i64 0), .pv (.int .i64 v1.Lo), .pv (.int .i64 v1.Hi)]] rfl ?_
      obtain ⟨v13, k18, h⟩ := bindE h
      refine d_callS (env1 := [(12, [.c (.box 5 0)]), (60, [.agg (bs (e_flow_Edge v7))]), (1, [.c (.pv (.int .i64 a1))]), (2, [.c (.pv (.int .i64 a2))]), (4, [.c (.box 0 0)]), (7, [.c (.box 1 0)]), (8, [.c (.box 2 0)]), (9, [.c (.box 3 0)]), (10, [.c (.emp)]), (11, [.c (.box 4 0)])]) (T1 := [⟨15, some 76, [.agg [.pv (.int .i64 (-1)), .pv (.int .i64 0), .pv (.int .i64 v1.Lo), .pv (.int .i64 v1.Hi)]], .light⟩, ⟨13, some 74, [.agg (bs (e_trans_State a3))], .light⟩, ⟨12, some 73, [.agg (bs (e_flow_Edge v7))], .light⟩, ⟨11, some 72, [.c (.pv (.int .i64 a2))], .light⟩, ⟨10, some 71, [.c (.pv (.sl (List.map e_i64 v10)))], .light⟩, ⟨9, some 70, [.c (.pv (.int .i64 v7.From))], .light⟩, ⟨8, some 69, [.c (.box 5 0)], .light⟩, ⟨7, some 68, [.agg [.pv (.int .i64 v8.Nodes), .pv (.sl (List.map e_flow_Edge v8.Edges)), .pv (.sl (List.map e_i64 v8.Heads))]], .light⟩, ⟨6, some 67, [.c (.ep [.int .i64 v8.Nodes, .sl (List.map e_flow_Edge v8.Edges), .sl (List.map e_i64 v8.Heads)])], .light⟩, ⟨5, some 66, [.c (.pv (.int .i64 a1))], .light⟩, ⟨4, some 65, [.c (.pv (.sl (List.map e_flow_Graph a0.S.Graphs)))], .light⟩, ⟨3, some 64, [.c (.box 0 1)], .light⟩, ⟨2, some 63, [.c (.box 0 0)], .light⟩, ⟨1, some 62, [.c (.pv (.int .i64 a1))], .light⟩, ⟨0, some 61, [.agg [.pv (.sl (List.map e_check_Chan a0.S.Chans)), .pv (.sl (List.map e_flow_Graph a0.S.Graphs)), .pv (.sl (List.map e_i64 a0.S.Vars)), .pv (.sl (List.map e_queue_Elem a0.Elems)), .pv (.sl (List.map e_bool a0.Deaf))]], .light⟩]) (resX := [.agg ([.pv (.bool v13.N.None), .pv (.sl (List.map e_itv_Itv v13.N.I)), .pv (.int .i64 v13.N.Z.N), .pv (.bool v13.N.Z.None)] ++ (bs (e_T42 v13.N.Z.D) ++ [.row 6, .row 7]))]) (st' := [some (.box true 61 [.pv (.sl (List.map e_check_Chan a0.S.Chans)), .pv (.sl (List.map e_flow_Graph a0.S.Graphs)), .pv (.sl (List.map e_i64 a0.S.Vars)), .pv (.sl (List.map e_queue_Elem a0.Elems)), .pv (.sl (List.map e_bool a0.Deaf))]), some (.box true 49 (bs (e_trans_State a3))), some (.box true 49 ([.pv (.bool false), .emp, .pv (.int .i64 0), .pv (.bool false)] ++ (bs (e_T42 (arr (arr 0 []) [(arr 0 [0, 0, 0, 0, 0, 0, 0]), (arr 0 [0, 0, 0, 0, 0, 0, 0]), (arr 0 [0, 0, 0, 0, 0, 0, 0]), (arr 0 [0, 0, 0, 0, 0, 0, 0]), (arr 0 [0, 0, 0, 0, 0, 0, 0]), (arr 0 [0, 0, 0, 0, 0, 0, 0]), (arr 0 [0, 0, 0, 0, 0, 0, 0])])) ++ [.emp, .emp]))), some (.box true 55 [.pv (.int .i64 0), .pv (.int .i64 0), .pv (.int .i64 0), .pv (.int .i64 0)]), some (.box true 55 [.pv (.int .i64 (-1)), .pv (.int .i64 0), .pv (.int .i64 v1.Lo), .pv (.int .i64 v1.Hi)]), some (.box true 31 (bs (e_flow_Edge v7))), some (.row true true 53 2 (List.map e_itv_Itv v13.Counts)), some (.row true true 85 1 (List.map e_rule_Set v13.Rules))]) (wm [0, 0, 0, 4, 12, 0, 60, 124, 0, 256, 1020, 0, 0, 0, 10236, 0, 65535, 131071, 262143]) 14 rfl (by kernel_rfl) (by kernel_rfl) (by kernel_rfl) (by kernel_rfl) (by kernel_rfl) (gi0 rfl) (oE tbok [] 4 (by kernel_rfl) (oL [] rfl (by kernel_rfl) (fl_call rfl Try.call24 rfl (by kernel_rfl) (by kernel_rfl) (flow_Out_meets k15)) (oE tbok [] 3 (by kernel_rfl) (oL [] rfl (by kernel_rfl) (fl_lt (ia_sl (e := e_flow_Graph) (y := v8) rfl u36 ty35 rfl rfl k13 rfl)) (oE tbok [] 6 (by kernel_rfl) trivial))))) [] [] rfl rfl rfl Try.call25 rfl rfl (by kernel_rfl) (by kernel_rfl) (trans_copied_meets k18) (by kernel_rfl) (by kernel_rfl) (by kernel_rfl) (by kernel_rfl) ?_
      refine dl (t := 77) 16 [.agg ([.pv (.sl (List.map e_check_Chan a0.S.Chans)), .pv (.sl (List.map e_flow_Graph a0.S.Graphs)), .pv (.sl (List.map e_i64 a0.S.Vars)), .pv (.sl (List.map e_queue_Elem a0.Elems)), .pv (.sl (List.map e_bool a0.Deaf)), .pv (.int .i64 a1), .pv (.sl (List.map e_i64 v10)), .pv (.int .i64 a2), .pv (.int .i64 v7.From), .pv (.int .i64 v7.To), .pv (.int .i64 v7.Kind), .pv (.int .i64 v7.Var), .pv (.int .i64 v7.Chan), .pv (.int .i64 v7.Tag), .pv (.int .i64 v7.E.Kind), .pv (.int .i64 v7.E.Num), .pv (.int .i64 v7.E.Var), .pv (.sl (List.map e_check_Expr v7.E.Kids)), .pv (.int .i64 v7.C.Op), .pv (.int .i64 v7.C.L.Kind), .pv (.int .i64 v7.C.L.Num), .pv (.int .i64 v7.C.L.Var), .pv (.sl (List.map e_check_Expr v7.C.L.Kids)), .pv (.int .i64 v7.C.R.Kind), .pv (.int .i64 v7.C.R.Num), .pv (.int .i64 v7.C.R.Var), .pv (.sl (List.map e_check_Expr v7.C.R.Kids)), .pv (.bool v13.N.None), .pv (.sl (List.map e_itv_Itv v13.N.I)), .pv (.int .i64 v13.N.Z.N), .pv (.bool v13.N.Z.None)] ++ (bs (e_T42 v13.N.Z.D) ++ ([.row 6, .row 7, .pv (.int .i64 (-1)), .pv (.int .i64 0), .pv (.int .i64 v1.Lo), .pv (.int .i64 v1.Hi)] ++ bs (e_T92 (arr false [false, false, false, false, false, false, false])))))] rfl ?_
      refine db (t := 78) 17 8 [.c (.box 8 0)] ((.box true 94 ([.pv (.sl (List.map e_check_Chan a0.S.Chans)), .pv (.sl (List.map e_flow_Graph a0.S.Graphs)), .pv (.sl (List.map e_i64 a0.S.Vars)), .pv (.sl (List.map e_queue_Elem a0.Elems)), .pv (.sl (List.map e_bool a0.Deaf)), .pv (.int .i64 a1), .pv (.sl (List.map e_i64 v10)), .pv (.int .i64 a2), .pv (.int .i64 v7.From), .pv (.int .i64 v7.To), .pv (.int .i64 v7.Kind), .pv (.int .i64 v7.Var), .pv (.int .i64 v7.Chan), .pv (.int .i64 v7.Tag), .pv (.int .i64 v7.E.Kind), .pv (.int .i64 v7.E.Num), .pv (.int .i64 v7.E.Var), .pv (.sl (List.map e_check_Expr v7.E.Kids)), .pv (.int .i64 v7.C.Op), .pv (.int .i64 v7.C.L.Kind), .pv (.int .i64 v7.C.L.Num), .pv (.int .i64 v7.C.L.Var), .pv (.sl (List.map e_check_Expr v7.C.L.Kids)), .pv (.int .i64 v7.C.R.Kind), .pv (.int .i64 v7.C.R.Num), .pv (.int .i64 v7.C.R.Var), .pv (.sl (List.map e_check_Expr v7.C.R.Kids)), .pv (.bool v13.N.None), .pv (.sl (List.map e_itv_Itv v13.N.I)), .pv (.int .i64 v13.N.Z.N), .pv (.bool v13.N.Z.None)] ++ (bs (e_T42 v13.N.Z.D) ++ ([.row 6, .row 7, .pv (.int .i64 (-1)), .pv (.int .i64 0), .pv (.int .i64 v1.Lo), .pv (.int .i64 v1.Hi)] ++ bs (e_T92 (arr false [false, false, false, false, false, false, false]))))))) rfl rfl (Push.eq (.s (.s (.s (.s (.s (.s (.s (.s .z))))))))) ?_
      refine dl (t := 13) 18 [.c (.box 8 0)] rfl ?_
      refine d_endS (env2 := [(13, [.c (.box 8 0)]), (8, [.c (.box 2 0)]), (9, [.c (.box 3 0)]), (10, [.c (.emp)])]) (wm [0, 0, 0, 4, 12, 0, 60, 124, 0, 256, 1020, 0, 0, 0, 10236, 0, 65535, 131071, 262143]) (by kernel_rfl) (by kernel_rfl) (by kernel_rfl) (oE tbok [] 1 (by kernel_rfl) (owF (by kernel_rfl) (fo_b [8] rfl rfl rfl (by kernel_rfl) (by kernel_rfl) (by kernel_rfl) (gi0 rfl) (bir_box rfl rfl rfl) (by kernel_rfl) (by kernel_rfl)) (oL [8] rfl (by kernel_rfl) (fl_lt (lt_build (cs := ([.pv (.sl (List.map e_check_Chan a0.S.Chans)), .pv (.sl (List.map e_flow_Graph a0.S.Graphs)), .pv (.sl (List.map e_i64 a0.S.Vars)), .pv (.sl (List.map e_queue_Elem a0.Elems)), .pv (.sl (List.map e_bool a0.Deaf)), .pv (.int .i64 a1), .pv (.sl (List.map e_i64 v10)), .pv (.int .i64 a2), .pv (.int .i64 v7.From), .pv (.int .i64 v7.To), .pv (.int .i64 v7.Kind), .pv (.int .i64 v7.Var), .pv (.int .i64 v7.Chan), .pv (.int .i64 v7.Tag), .pv (.int .i64 v7.E.Kind), .pv (.int .i64 v7.E.Num), .pv (.int .i64 v7.E.Var), .pv (.sl (List.map e_check_Expr v7.E.Kids)), .pv (.int .i64 v7.C.Op), .pv (.int .i64 v7.C.L.Kind), .pv (.int .i64 v7.C.L.Num), .pv (.int .i64 v7.C.L.Var), .pv (.sl (List.map e_check_Expr v7.C.L.Kids)), .pv (.int .i64 v7.C.R.Kind), .pv (.int .i64 v7.C.R.Num), .pv (.int .i64 v7.C.R.Var), .pv (.sl (List.map e_check_Expr v7.C.R.Kids)), .pv (.bool v13.N.None), .pv (.sl (List.map e_itv_Itv v13.N.I)), .pv (.int .i64 v13.N.Z.N), .pv (.bool v13.N.Z.None)] ++ (bs (e_T42 v13.N.Z.D) ++ ([.row 6, .row 7, .pv (.int .i64 (-1)), .pv (.int .i64 0), .pv (.int .i64 v1.Lo), .pv (.int .i64 v1.Hi)] ++ bs (e_T92 (arr false [false, false, false, false, false, false, false])))))) rfl st94 rfl (by kernel_rfl))) (oN 1 (by kernel_rfl) (oE tbok [8] 1 (by kernel_rfl) (oN 1 (by kernel_rfl) (oE tbok [8] 2 (by kernel_rfl) (oN 9 (by kernel_rfl) (oE tbok [8] 2 (by kernel_rfl) trivial))))))))) (sub_cons rfl (sub_cons rfl (sub_cons rfl (sub_cons rfl sub_nil)))) wT ?_
      refine then_ ?_
      refine seq_ ?_
      refine region_ ?_
      refine R tbok 1 [79, 13, 8, 9, 10] [(79, [.c (.box 8 0)]), (13, [.c (.box 8 0)]), (8, [.c (.box 2 0)]), (9, [.c (.box 3 0)]), (10, [.c (.emp)])] (by kernel_rfl) ?_
      obtain ⟨v14, k19, h⟩ := bindE h
      refine callS (env' := [(79, [.c (.box 8 0)]), (13, [.c (.box 8 0)]), (8, [.c (.box 2 0)]), (9, [.c (.box 3 0)]), (10, [.c (.emp)])]) (argsX' := []) (st' := [some (.box true 61 [.pv (.sl (List.map e_check_Chan a0.S.Chans)), .pv (.sl (List.map e_flow_Graph a0.S.Graphs)), .pv (.sl (List.map e_i64 a0.S.Vars)), .pv (.sl (List.map e_queue_Elem a0.Elems)), .pv (.sl (List.map e_bool a0.Deaf))]), some (.box true 49 (bs (e_trans_State a3))), some (.box true 49 ([.pv (.bool false), .emp, .pv (.int .i64 0), .pv (.bool false)] ++ (bs (e_T42 (arr (arr 0 []) [(arr 0 [0, 0, 0, 0, 0, 0, 0]), (arr 0 [0, 0, 0, 0, 0, 0, 0]), (arr 0 [0, 0, 0, 0, 0, 0, 0]), (arr 0 [0, 0, 0, 0, 0, 0, 0]), (arr 0 [0, 0, 0, 0, 0, 0, 0]), (arr 0 [0, 0, 0, 0, 0, 0, 0]), (arr 0 [0, 0, 0, 0, 0, 0, 0])])) ++ [.emp, .emp]))), some (.box true 55 [.pv (.int .i64 0), .pv (.int .i64 0), .pv (.int .i64 0), .pv (.int .i64 0)]), some (.box true 55 [.pv (.int .i64 (-1)), .pv (.int .i64 0), .pv (.int .i64 v1.Lo), .pv (.int .i64 v1.Hi)]), some (.box true 31 (bs (e_flow_Edge v7))), none, none, some (.box true 94 (bs (e_trans_stepper v14)))]) [8, 6, 7] [] rfl rfl rfl rfl Try.call26 rfl rfl (by kernel_rfl) (by kernel_rfl) (trans_stepper_step_meets k19) (by kernel_rfl) (by kernel_rfl) (by kernel_rfl) ?_
      refine ops_nil ?_
      refine then_ ?_
      refine seq_ ?_
      refine drawn_ mixed ?_
      refine dl (t := 81) 0 [.c (.box 8 0)] rfl ?_
      refine dl (t := 82) 1 [.c (.box 8 0)] rfl ?_
      refine dl (t := 83) 2 [.c (.box 8 27)] rfl ?_
      refine dl (t := 84) 3 [.agg (bs (e_trans_State v14.f_a))] rfl ?_
      refine dl (t := 85) 4 [.c (.box 8 0)] rfl ?_
      refine dl (t := 86) 5 [.c (.box 8 0)] rfl ?_
      refine dl (t := 87) 6 [.c (.box 8 82)] rfl ?_
      refine dl (t := 88) 7 [.agg [.pv (.int .i64 v14.f_sent.Chan), .pv (.int .i64 v14.f_sent.Tag), .pv (.int .i64 v14.f_sent.Vals.Lo), .pv (.int .i64 v14.f_sent.Vals.Hi)]] rfl ?_
      refine dl (t := 89) 8 [.c (.box 8 0)] rfl ?_
      obtain ⟨v16, k21, h⟩ := bindE h
      refine d_callS (env1 := [(80, []), (79, [.c (.box 8 0)]), (13, [.c (.box 8 0)]), (8, [.c (.box 2 0)]), (9, [.c (.box 3 0)]), (10, [.c (.emp)])]) (T1 := [⟨8, some 89, [.c (.box 8 0)], .light⟩, ⟨7, some 88, [.agg [.pv (.int .i64 v14.f_sent.Chan), .pv (.int .i64 v14.f_sent.Tag), .pv (.int .i64 v14.f_sent.Vals.Lo), .pv (.int .i64 v14.f_sent.Vals.Hi)]], .light⟩, ⟨6, some 87, [.c (.box 8 82)], .light⟩, ⟨5, some 86, [.c (.box 8 0)], .light⟩, ⟨4, some 85, [.c (.box 8 0)], .light⟩, ⟨3, some 84, [.agg (bs (e_trans_State v14.f_a))], .light⟩, ⟨2, some 83, [.c (.box 8 27)], .light⟩, ⟨1, some 82, [.c (.box 8 0)], .light⟩, ⟨0, some 81, [.c (.box 8 0)], .light⟩]) (resX := [.c (.pv (.sl (List.map e_i64 v16)))]) (st' := [some (.box true 61 [.pv (.sl (List.map e_check_Chan a0.S.Chans)), .pv (.sl (List.map e_flow_Graph a0.S.Graphs)), .pv (.sl (List.map e_i64 a0.S.Vars)), .pv (.sl (List.map e_queue_Elem a0.Elems)), .pv (.sl (List.map e_bool a0.Deaf))]), some (.box true 49 (bs (e_trans_State a3))), some (.box true 49 ([.pv (.bool false), .emp, .pv (.int .i64 0), .pv (.bool false)] ++ (bs (e_T42 (arr (arr 0 []) [(arr 0 [0, 0, 0, 0, 0, 0, 0]), (arr 0 [0, 0, 0, 0, 0, 0, 0]), (arr 0 [0, 0, 0, 0, 0, 0, 0]), (arr 0 [0, 0, 0, 0, 0, 0, 0]), (arr 0 [0, 0, 0, 0, 0, 0, 0]), (arr 0 [0, 0, 0, 0, 0, 0, 0]), (arr 0 [0, 0, 0, 0, 0, 0, 0])])) ++ [.emp, .emp]))), some (.box true 55 [.pv (.int .i64 0), .pv (.int .i64 0), .pv (.int .i64 0), .pv (.int .i64 0)]), some (.box true 55 [.pv (.int .i64 (-1)), .pv (.int .i64 0), .pv (.int .i64 v1.Lo), .pv (.int .i64 v1.Hi)]), some (.box true 31 (bs (e_flow_Edge v7))), none, none, some (.box true 94 (bs (e_trans_stepper v14)))]) (wm [0, 1, 3, 7, 0, 16, 48, 112, 0, 256, 783, 2047, 4095]) 9 rfl (by kernel_rfl) (by kernel_rfl) (by kernel_rfl) (by kernel_rfl) (by kernel_rfl) (gi0 rfl) (oE tbok [] 9 (by kernel_rfl) trivial) [8] [8] rfl rfl rfl Try.call27 rfl rfl (by kernel_rfl) (by kernel_rfl) (trans_stepper_kinds_meets k21) (by kernel_rfl) (by kernel_rfl) (by kernel_rfl) (by kernel_rfl) ?_
      refine d_store (wm [0, 1, 3, 7, 0, 16, 48, 112, 0, 256, 783, 2047, 4095]) 10 rfl (by kernel_rfl) (by kernel_rfl) (by kernel_rfl) (by kernel_rfl) (by kernel_rfl) (gi0 rfl) (oN 2 (by kernel_rfl) (oE tbok [] 8 (by kernel_rfl) trivial)) rfl rfl ty49 rfl rfl rfl rfl rfl rfl (putE 55 (.all rfl) rfl (by decide)) (SetAt.eq (.s (.s .z))) ?_
      refine d_store (wm [0, 1, 3, 7, 0, 16, 48, 112, 0, 256, 783, 2047, 4095]) 11 rfl (by kernel_rfl) (by kernel_rfl) (by kernel_rfl) (by kernel_rfl) (by kernel_rfl) (gi0 rfl) (oN 3 (by kernel_rfl) (oE tbok [] 4 (by kernel_rfl) (oN 4 (by kernel_rfl) trivial))) rfl rfl ty55 rfl rfl rfl rfl rfl rfl (putE 4 (.all rfl) rfl (by decide)) (SetAt.eq (.s (.s (.s .z)))) ?_
      refine dl (t := 10) 12 [.c (.pv (.sl (List.map e_i64 v16)))] rfl ?_
      refine d_endS (env2 := [(10, [.c (.pv (.sl (List.map e_i64 v16)))]), (8, [.c (.box 2 0)]), (9, [.c (.box 3 0)])]) (wm [0, 1, 3, 7, 0, 16, 48, 112, 0, 256, 783, 2047, 4095]) (by kernel_rfl) (by kernel_rfl) (by kernel_rfl) (oE tbok [] 1 (by kernel_rfl) (oN 12 (by kernel_rfl) trivial)) (sub_cons rfl (sub_cons rfl (sub_cons rfl sub_nil))) wT ?_
      refine then_ ?_
      refine ret_ ?_
      obtain rfl := retE h
      refine rwr (rw_ (.cellA (ys := (bs (e_trans_State v14.f_a))) ty49 rfl rfl (by kernel_rfl) (by kernel_rfl) (.cellA (ys := [.pv (.int .i64 v14.f_sent.Chan), .pv (.int .i64 v14.f_sent.Tag), .pv (.int .i64 v14.f_sent.Vals.Lo), .pv (.int .i64 v14.f_sent.Vals.Hi)]) ty55 rfl rfl (by kernel_rfl) (by kernel_rfl) (.tmp rfl .nil))) ?_)
      refine w_none 0 .z ?_
      refine w_none 1 (.s .z) ?_
      refine w_none 2 (.s (.s .z)) ?_
      refine w_none 3 (.s (.s (.s .z))) ?_
      refine w_none 4 (.s (.s (.s (.s .z)))) ?_
      refine w_none 5 (.s (.s (.s (.s (.s .z))))) ?_
      refine w_none 8 (.s (.s (.s (.s (.s (.s (.s (.s .z)))))))) ?_
      refine w_cut 0 rfl rfl rfl rfl ?_
      exact wkE (by kernel_rfl) (by kernel_rfl)

theorem l14_steps_meets {r : Bool} (h : l14_steps = some r) : MeetsV Try.prog GG 12 [] [.c (.pv (.bool r))] := by
  refine MeetsS.toV (meetsW_of (st0 := []) (N := 55) r_l14_steps o_l14_steps r Try.func12 rfl rfl rfl (by dsimp only [argEnv]) rfl ?_) rfl
  unfold l14_steps at h
  refine seq_ ?_
  refine region_ ?_
  refine R tbok 1 [0] [(0, [.c (.pv (.bool false))])] (by kernel_rfl) ?_
  refine ops_nil ?_
  refine then_ ?_
  refine seq_ ?_
  refine region_ ?_
  refine L rfl rfl (lt_build (cs := [.pv (.int .i64 1), .pv (.int .i64 3), .pv (.int .i64 0), .emp]) rfl st25 rfl (by kernel_rfl)) rfl ?_
  refine L rfl rfl (lt_build (cs := [.pv (.int .i64 0), .pv (.int .i64 1), .pv (.int .i64 1), .pv (.int .i64 0), .pv (.int .i64 0), .pv (.int .i64 0), .pv (.int .i64 1), .pv (.int .i64 3), .pv (.int .i64 0), .emp, .pv (.int .i64 0), .pv (.int .i64 0), .pv (.int .i64 0), .pv (.int .i64 0), .emp, .pv (.int .i64 0), .pv (.int .i64 0), .pv (.int .i64 0), .emp]) rfl st31 rfl (by kernel_rfl)) rfl ?_
  refine C rfl rfl (fl_slice (cs := [.pv (.int .i64 0), .pv (.int .i64 1), .pv (.int .i64 1), .pv (.int .i64 0), .pv (.int .i64 0), .pv (.int .i64 0), .pv (.int .i64 1), .pv (.int .i64 3), .pv (.int .i64 0), .emp, .pv (.int .i64 0), .pv (.int .i64 0), .pv (.int .i64 0), .pv (.int .i64 0), .emp, .pv (.int .i64 0), .pv (.int .i64 0), .pv (.int .i64 0), .emp]) (pv := [.int .i64 0, .int .i64 1, .int .i64 1, .int .i64 0, .int .i64 0, .int .i64 0, .int .i64 1, .int .i64 3, .int .i64 0, .sl [], .int .i64 0, .int .i64 0, .int .i64 0, .int .i64 0, .sl [], .int .i64 0, .int .i64 0, .int .i64 0, .sl []]) (List.map e_flow_Edge [(flow_Edge.mk 0 1 1 0 0 0 (check_Expr.mk 1 3 0 []) (check_Cond.mk 0 (check_Expr.mk 0 0 0 []) (check_Expr.mk 0 0 0 [])))]) rfl sl32 rfl rfl (by kernel_rfl) (by kernel_rfl) (by kernel_rfl) rfl rfl) rfl ?_
  refine L rfl rfl (lt_build (cs := [.pv (.int .i64 2), .pv (.sl (List.map e_flow_Edge [(flow_Edge.mk 0 1 1 0 0 0 (check_Expr.mk 1 3 0 []) (check_Cond.mk 0 (check_Expr.mk 0 0 0 []) (check_Expr.mk 0 0 0 [])))])), .emp]) rfl st35 rfl (by kernel_rfl)) rfl ?_
  refine C rfl rfl (fl_slice (List.map e_flow_Graph [(flow_Graph.mk 2 [(flow_Edge.mk 0 1 1 0 0 0 (check_Expr.mk 1 3 0 []) (check_Cond.mk 0 (check_Expr.mk 0 0 0 []) (check_Expr.mk 0 0 0 [])))] [])]) rfl sl36 rfl rfl rfl rfl rfl rfl rfl) rfl ?_
  refine C rfl rfl (fl_slice (List.map e_i64 [1]) rfl sl33 rfl rfl rfl rfl rfl rfl rfl) rfl ?_
  refine L rfl rfl (lt_build (cs := [.emp, .pv (.sl (List.map e_flow_Graph [(flow_Graph.mk 2 [(flow_Edge.mk 0 1 1 0 0 0 (check_Expr.mk 1 3 0 []) (check_Cond.mk 0 (check_Expr.mk 0 0 0 []) (check_Expr.mk 0 0 0 [])))] [])])), .pv (.sl (List.map e_i64 [1]))]) rfl st39 rfl (by kernel_rfl)) rfl ?_
  refine B rfl rfl (bir_alloc rfl z39 rfl rfl) rfl rfl .z ?_
  refine S rfl rfl rfl ty39 (by decide) rfl rfl rfl rfl rfl (.all rfl) .z ?_
  refine ops_nil ?_
  refine then_ ?_
  refine seq_ ?_
  refine drawn_ mixed ?_
  refine dl (t := 13) 0 [.agg [.emp, .pv (.sl (List.map e_flow_Graph [(flow_Graph.mk 2 [(flow_Edge.mk 0 1 1 0 0 0 (check_Expr.mk 1 3 0 []) (check_Cond.mk 0 (check_Expr.mk 0 0 0 []) (check_Expr.mk 0 0 0 [])))] [])])), .pv (.sl (List.map e_i64 [1]))]] rfl ?_
  refine dl (t := 14) 1 [.agg [.emp, .pv (.sl (List.map e_flow_Graph [(flow_Graph.mk 2 [(flow_Edge.mk 0 1 1 0 0 0 (check_Expr.mk 1 3 0 []) (check_Cond.mk 0 (check_Expr.mk 0 0 0 []) (check_Expr.mk 0 0 0 [])))] [])])), .pv (.sl (List.map e_i64 [1])), .emp, .emp]] rfl ?_
  refine dl (t := 15) 2 [.agg [.emp, .pv (.sl (List.map e_flow_Graph [(flow_Graph.mk 2 [(flow_Edge.mk 0 1 1 0 0 0 (check_Expr.mk 1 3 0 []) (check_Cond.mk 0 (check_Expr.mk 0 0 0 []) (check_Expr.mk 0 0 0 [])))] [])])), .pv (.sl (List.map e_i64 [1]))]] rfl ?_
  obtain ⟨v2, k2, h⟩ := bindE h
  refine dl (t := 16) 3 [.agg (bs (e_trans_State v2))] rfl ?_
  obtain ⟨v4, k4, h⟩ := bindE h
  refine dl (t := 17) 4 [.agg (bs (e_trans_State v4.1)), .agg [.pv (.int .i64 v4.2.1.Chan), .pv (.int .i64 v4.2.1.Tag), .pv (.int .i64 v4.2.1.Vals.Lo), .pv (.int .i64 v4.2.1.Vals.Hi)], .c (.pv (.sl (List.map e_i64 v4.2.2)))] rfl ?_
  refine dl (t := 12) 5 [.agg (bs (e_trans_State v4.1)), .agg [.pv (.int .i64 v4.2.1.Chan), .pv (.int .i64 v4.2.1.Tag), .pv (.int .i64 v4.2.1.Vals.Lo), .pv (.int .i64 v4.2.1.Vals.Hi)], .c (.pv (.sl (List.map e_i64 v4.2.2)))] rfl ?_
  refine dl (t := 18) 6 [.agg (bs (e_trans_State v4.1))] rfl ?_
  refine dl (t := 19) 7 [.agg [.pv (.int .i64 v4.2.1.Chan), .pv (.int .i64 v4.2.1.Tag), .pv (.int .i64 v4.2.1.Vals.Lo), .pv (.int .i64 v4.2.1.Vals.Hi)]] rfl ?_
  refine dl (t := 20) 8 [.c (.pv (.sl (List.map e_i64 v4.2.2)))] rfl ?_
  refine db (t := 2) 9 1 [.c (.box 1 0)] ((.box true 49 ([.pv (.bool false), .emp, .pv (.int .i64 0), .pv (.bool false)] ++ (bs (e_T42 (arr (arr 0 []) [(arr 0 [0, 0, 0, 0, 0, 0, 0]), (arr 0 [0, 0, 0, 0, 0, 0, 0]), (arr 0 [0, 0, 0, 0, 0, 0, 0]), (arr 0 [0, 0, 0, 0, 0, 0, 0]), (arr 0 [0, 0, 0, 0, 0, 0, 0]), (arr 0 [0, 0, 0, 0, 0, 0, 0]), (arr 0 [0, 0, 0, 0, 0, 0, 0])])) ++ [.emp, .emp])))) rfl rfl (Push.eq (.s .z)) ?_
  refine db (t := 3) 10 2 [.c (.box 2 0)] ((.box true 55 [.pv (.int .i64 0), .pv (.int .i64 0), .pv (.int .i64 0), .pv (.int .i64 0)])) rfl rfl (Push.eq (.s (.s .z))) ?_
  refine d_store (wm [0, 1, 0, 4, 15, 31, 63, 63, 63, 0, 0, 1663, 3839, 8191]) 11 rfl (by kernel_rfl) (by kernel_rfl) (by kernel_rfl) (by kernel_rfl) (by kernel_rfl) (gi0 rfl) (owF (by kernel_rfl) (fo_b [2, 1] rfl rfl rfl (by kernel_rfl) (by kernel_rfl) (by kernel_rfl) (gi0 rfl) (bir_alloc rfl z55 rfl rfl) (by kernel_rfl) (by kernel_rfl)) (owF (by kernel_rfl) (fo_b [2, 1] rfl rfl rfl (by kernel_rfl) (by kernel_rfl) (by kernel_rfl) (gi0 rfl) (bir_alloc rfl z49 rfl rfl) (by kernel_rfl) (by kernel_rfl)) (oE tbok [2, 1] 4 (by kernel_rfl) (oL [2, 1] rfl (by kernel_rfl) (fl_call rfl Try.call8 rfl (by kernel_rfl) (by kernel_rfl) (trans_Step_meets k4)) (oL [2, 1] rfl (by kernel_rfl) (fl_call rfl Try.call6 rfl (by kernel_rfl) (by kernel_rfl) (trans_Start_meets k2)) (oE tbok [2, 1] 1 (by kernel_rfl) (oL [2, 1] rfl (by kernel_rfl) (fl_lt (lt_build (cs := [.emp, .pv (.sl (List.map e_flow_Graph [(flow_Graph.mk 2 [(flow_Edge.mk 0 1 1 0 0 0 (check_Expr.mk 1 3 0 []) (check_Cond.mk 0 (check_Expr.mk 0 0 0 []) (check_Expr.mk 0 0 0 [])))] [])])), .pv (.sl (List.map e_i64 [1])), .emp, .emp]) rfl st61 rfl (by kernel_rfl))) (oE tbok [2, 1] 1 (by kernel_rfl) trivial)))))))) rfl rfl ty49 rfl rfl rfl rfl rfl rfl (putE 55 (.all rfl) rfl (by decide)) (SetAt.eq (.s .z)) ?_
  refine d_store (wm [0, 1, 0, 4, 15, 31, 63, 63, 63, 0, 0, 1663, 3839, 8191]) 12 rfl (by kernel_rfl) (by kernel_rfl) (by kernel_rfl) (by kernel_rfl) (by kernel_rfl) (gi0 rfl) (oN 3 (by kernel_rfl) (oE tbok [2, 1] 2 (by kernel_rfl) (oN 7 (by kernel_rfl) trivial))) rfl rfl ty55 rfl rfl rfl rfl rfl rfl (putE 4 (.all rfl) rfl (by decide)) (SetAt.eq (.s (.s .z))) ?_
  refine dl (t := 4) 13 [.c (.pv (.sl (List.map e_i64 v4.2.2)))] rfl ?_
  refine d_endS (env2 := [(4, [.c (.pv (.sl (List.map e_i64 v4.2.2)))]), (3, [.c (.box 2 0)]), (2, [.c (.box 1 0)]), (1, [.c (.box 0 0)]), (0, [.c (.pv (.bool false))])]) (wm [0, 1, 0, 4, 15, 31, 63, 63, 63, 0, 0, 1663, 3839, 8191]) (by kernel_rfl) (by kernel_rfl) (by kernel_rfl) (oE tbok [] 1 (by kernel_rfl) (oN 4 (by kernel_rfl) (oE tbok [2, 1] 1 (by kernel_rfl) (oN 8 (by kernel_rfl) trivial)))) (sub_cons rfl (sub_cons rfl (sub_cons rfl (sub_cons rfl (sub_cons rfl sub_nil))))) wT ?_
  refine then_ ?_
  refine seq_ ?_
  refine jn_ (fun (j1 : Bool) => (⟨55, 0, [(0, [.c (.pv (.bool j1))])], []⟩ : Sx)) h wT (fun o h => ?_) (fun j1 h => ?_)
  · refine drawn_ mixed ?_
    refine dl (t := 21) 0 [.agg (bs (e_trans_State v4.1))] rfl ?_
    obtain ⟨v6, k6, h⟩ := bindE h
    refine dl (t := 22) 1 [.c (.pv (.bool v6))] rfl ?_
    refine dl (t := 23) 2 [.c (.pv (.bool (!v6)))] rfl ?_
    refine dl (t := 24) 3 [.c (.pv (.bool (!v6)))] rfl ?_
    refine (tf (!v6)).elim (fun k7 => ?_) (fun k7 => ?_)
    · have h := iteT h k7
      refine dl (t := 25) 4 [.c (.box 1 0)] rfl ?_
      refine dl (t := 26) 5 [.c (.box 1 1)] rfl ?_
      refine dl (t := 27) 6 [.c (.pv (.sl (List.map e_itv_Itv v4.1.N.I)))] rfl ?_
      refine dl (t := 28) 7 [.c (.pv (.int .i64 (v4.1.N.I.length : Int)))] rfl ?_
      refine dl (t := 29) 8 [.c (.pv (.bool ((v4.1.N.I.length : Int) == 1)))] rfl ?_
      refine dl (t := 30) 9 [.c (.pv (.bool ((v4.1.N.I.length : Int) == 1)))] rfl ?_
      refine dl (t := 31) 10 [.c (.pv (.bool ((v4.1.N.I.length : Int) == 1)))] rfl ?_
      refine (tf ((v4.1.N.I.length : Int) == 1)).elim (fun k8 => ?_) (fun k8 => ?_)
      · have h := iteT h k8
        refine dl (t := 32) 11 [.c (.box 1 0)] rfl ?_
        refine dl (t := 33) 12 [.c (.box 1 1)] rfl ?_
        refine dl (t := 34) 13 [.c (.pv (.sl (List.map e_itv_Itv v4.1.N.I)))] rfl ?_
        obtain ⟨v7, k9, h⟩ := bindE h
        refine dl (t := 35) 14 [.c (.ep [.int .i64 v7.Lo, .int .i64 v7.Hi])] rfl ?_
        refine dl (t := 36) 15 [.agg [.pv (.int .i64 v7.Lo), .pv (.int .i64 v7.Hi)]] rfl ?_
        obtain ⟨v9, k11, h⟩ := bindE h
        refine dl (t := 37) 16 [.agg [.pv (.int .i64 v9.Lo), .pv (.int .i64 v9.Hi)]] rfl ?_
        refine dl (t := 38) 17 [.c (.pv (.bool ((v7.Lo : Int) == v9.Lo && ((v7.Hi : Int) == v9.Hi && true))))] rfl ?_
        refine dl (t := 39) 18 [.c (.pv (.bool ((v7.Lo : Int) == v9.Lo && ((v7.Hi : Int) == v9.Hi && true))))] rfl ?_
        refine dl (t := 40) 19 [.c (.pv (.bool ((v7.Lo : Int) == v9.Lo && ((v7.Hi : Int) == v9.Hi && true))))] rfl ?_
        refine (tf ((v7.Lo : Int) == v9.Lo && ((v7.Hi : Int) == v9.Hi && true))).elim (fun k12 => ?_) (fun k12 => ?_)
        · have h := iteT h k12
          refine dl (t := 41) 20 [.c (.box 2 0)] rfl ?_
          refine dl (t := 42) 21 [.c (.pv (.int .i64 v4.2.1.Chan))] rfl ?_
          refine dl (t := 43) 22 [.c (.pv (.bool (v4.2.1.Chan == (-1))))] rfl ?_
          refine dl (t := 44) 23 [.c (.pv (.bool (v4.2.1.Chan == (-1))))] rfl ?_
          refine dl (t := 45) 24 [.c (.pv (.bool (v4.2.1.Chan == (-1))))] rfl ?_
          refine (tf (v4.2.1.Chan == (-1))).elim (fun k13 => ?_) (fun k13 => ?_)
          · have h := iteT h k13
            refine dl (t := 46) 25 [.c (.pv (.sl (List.map e_i64 v4.2.2)))] rfl ?_
            refine dl (t := 47) 26 [.c (.pv (.int .i64 (v4.2.2.length : Int)))] rfl ?_
            refine dl (t := 48) 27 [.c (.pv (.bool ((v4.2.2.length : Int) == 0)))] rfl ?_
            refine dl (t := 49) 28 [.c (.pv (.bool ((v4.2.2.length : Int) == 0)))] rfl ?_
            refine dl (t := 50) 29 [.c (.pv (.bool ((v4.2.2.length : Int) == 0)))] rfl ?_
            refine (tf ((v4.2.2.length : Int) == 0)).elim (fun k14 => ?_) (fun k14 => ?_)
            · have h := iteT h k14
              refine dl (t := 51) 30 [.agg [.emp, .pv (.sl (List.map e_flow_Graph [(flow_Graph.mk 2 [(flow_Edge.mk 0 1 1 0 0 0 (check_Expr.mk 1 3 0 []) (check_Cond.mk 0 (check_Expr.mk 0 0 0 []) (check_Expr.mk 0 0 0 [])))] [])])), .pv (.sl (List.map e_i64 [1]))]] rfl ?_
              obtain ⟨v11, k16, h⟩ := bindE h
              refine dl (t := 52) 31 [.agg (bs (e_trans_State v11))] rfl ?_
              obtain ⟨v13, k18, h⟩ := bindE h
              refine dl (t := 53) 32 [.c (.pv (.bool v13))] rfl ?_
              refine dl (t := 54) 33 [.c (.pv (.bool v13))] rfl ?_
              refine dl (t := 0) 34 [.c (.pv (.bool v13))] rfl ?_
              refine d_endS (env2 := [(0, [.c (.pv (.bool v13))])]) (wm [0, 1, 3, 7, 15, 31, 63, 127, 255, 511, 1023, 2047, 4095, 8191, 16383, 32767, 2047, 131071, 262143, 524287, 1048575, 2097151, 4194303, 8388607, 16777215, 33554431, 67108863, 134217727, 268435455, 536870911, 1073741823, 2147483647, 4294967295, 8589934591, 17179869183]) (by kernel_rfl) (by kernel_rfl) (by kernel_rfl) (oE tbok [] 1 (by kernel_rfl) (oL [] rfl (by kernel_rfl) (fl_lt (lt_pickT rfl rfl k14 rfl)) (owF (by kernel_rfl) (fo_l [] rfl rfl rfl (by kernel_rfl) (by kernel_rfl) (by kernel_rfl) (gi1 rfl rfl rfl (beT k14)) (fl_call rfl Try.call10 rfl (by kernel_rfl) (by kernel_rfl) (trans_Empty_meets k18))) (owF (by kernel_rfl) (fo_l [] rfl rfl rfl (by kernel_rfl) (by kernel_rfl) (by kernel_rfl) (gi1 rfl rfl rfl (beT k14)) (fl_call rfl Try.call23 rfl (by kernel_rfl) (by kernel_rfl) (trans_None_meets k16))) (owF (by kernel_rfl) (fo_l [] rfl rfl rfl (by kernel_rfl) (by kernel_rfl) (by kernel_rfl) (gi1 rfl rfl rfl (beT k14)) (fl_lt (lt_load_boxA (ys := [.emp, .pv (.sl (List.map e_flow_Graph [(flow_Graph.mk 2 [(flow_Edge.mk 0 1 1 0 0 0 (check_Expr.mk 1 3 0 []) (check_Cond.mk 0 (check_Expr.mk 0 0 0 []) (check_Expr.mk 0 0 0 [])))] [])])), .pv (.sl (List.map e_i64 [1]))]) rfl ty39 rfl rfl (by kernel_rfl) (by kernel_rfl)))) (oE tbok [] 1 (by kernel_rfl) (oL [] rfl (by kernel_rfl) (fl_lt (lt_pickT rfl rfl k13 rfl)) (owF (by kernel_rfl) (fo_l [] rfl rfl rfl (by kernel_rfl) (by kernel_rfl) (by kernel_rfl) (gi1 rfl rfl rfl (beT k13)) (fl_lt (lt_int rfl rfl rfl rfl))) (owF (by kernel_rfl) (fo_l [] rfl rfl rfl (by kernel_rfl) (by kernel_rfl) (by kernel_rfl) (gi1 rfl rfl rfl (beT k13)) (fl_lt (len_sl (e := e_i64) rfl u33 rfl))) (owF (by kernel_rfl) (fo_l [] rfl rfl rfl (by kernel_rfl) (by kernel_rfl) (by kernel_rfl) (gi1 rfl rfl rfl (beT k13)) (fl_lt (lt_move rfl rfl))) (oE tbok [] 1 (by kernel_rfl) (oL [] rfl (by kernel_rfl) (fl_lt (lt_pickT rfl rfl k12 rfl)) (owF (by kernel_rfl) (fo_l [] rfl rfl rfl (by kernel_rfl) (by kernel_rfl) (by kernel_rfl) (gi1 rfl rfl rfl (beT k12)) (fl_lt (lt_int rfl rfl rfl rfl))) (owF (by kernel_rfl) (fo_l [] rfl rfl rfl (by kernel_rfl) (by kernel_rfl) (by kernel_rfl) (gi1 rfl rfl rfl (beT k12)) (fl_lt (lt_load_box rfl ty3 rfl rfl rfl))) (owF (by kernel_rfl) (fo_l [] rfl rfl rfl (by kernel_rfl) (by kernel_rfl) (by kernel_rfl) (gi1 rfl rfl rfl (beT k12)) (fl_lt (lt_fa_box rfl f55_0 ty3 (by decide) rfl))) (oE tbok [] 1 (by kernel_rfl) (oL [] rfl (by kernel_rfl) (fl_lt (lt_pickT rfl rfl k8 rfl)) (owF (by kernel_rfl) (fo_l [] rfl rfl rfl (by kernel_rfl) (by kernel_rfl) (by kernel_rfl) (gi1 rfl rfl rfl (beT k8)) (fl_lt (lt_eqStruct (r := ((v7.Lo : Int) == v9.Lo && ((v7.Hi : Int) == v9.Hi && true))) rfl u53 sp53 eg53 rfl rfl (by kernel_rfl) (.inl ⟨rfl, rfl⟩)))) (owF (by kernel_rfl) (fo_l [] rfl rfl rfl (by kernel_rfl) (by kernel_rfl) (by kernel_rfl) (gi1 rfl rfl rfl (beT k8)) (fl_call rfl Try.call15 rfl (by kernel_rfl) (by kernel_rfl) (itv_Const_meets k11))) (owF (by kernel_rfl) (fo_l [] rfl rfl rfl (by kernel_rfl) (by kernel_rfl) (by kernel_rfl) (gi1 rfl rfl rfl (beT k8)) (fl_lt (lt_load_epA (ys := [.pv (.int .i64 v7.Lo), .pv (.int .i64 v7.Hi)]) rfl ty53 rfl (Nat.le_of_ble_eq_true rfl) (by kernel_rfl)))) (owF (by kernel_rfl) (fo_l [] rfl rfl rfl (by kernel_rfl) (by kernel_rfl) (by kernel_rfl) (gi1 rfl rfl rfl (beT k8)) (fl_lt (ia_sl (e := e_itv_Itv) (y := v7) rfl u40 ty53 rfl rfl k9 rfl))) (owF (by kernel_rfl) (fo_l [] rfl rfl rfl (by kernel_rfl) (by kernel_rfl) (by kernel_rfl) (gi1 rfl rfl rfl (beT k8)) (fl_lt (lt_load_box rfl ty40 rfl rfl rfl))) (owF (by kernel_rfl) (fo_l [] rfl rfl rfl (by kernel_rfl) (by kernel_rfl) (by kernel_rfl) (gi1 rfl rfl rfl (beT k8)) (fl_lt (lt_fa_box rfl f46_1 ty40 (by decide) rfl))) (owF (by kernel_rfl) (fo_l [] rfl rfl rfl (by kernel_rfl) (by kernel_rfl) (by kernel_rfl) (gi1 rfl rfl rfl (beT k8)) (fl_lt (lt_fa_box rfl f49_0 ty46 (by decide) rfl))) (oE tbok [] 1 (by kernel_rfl) (oL [] rfl (by kernel_rfl) (fl_lt (lt_pickT rfl rfl k7 rfl)) (owF (by kernel_rfl) (fo_l [] rfl rfl rfl (by kernel_rfl) (by kernel_rfl) (by kernel_rfl) (gi1 rfl rfl rfl (beT k7)) (fl_lt (lt_int rfl rfl rfl rfl))) (owF (by kernel_rfl) (fo_l [] rfl rfl rfl (by kernel_rfl) (by kernel_rfl) (by kernel_rfl) (gi1 rfl rfl rfl (beT k7)) (fl_lt (len_sl (e := e_itv_Itv) rfl u40 rfl))) (owF (by kernel_rfl) (fo_l [] rfl rfl rfl (by kernel_rfl) (by kernel_rfl) (by kernel_rfl) (gi1 rfl rfl rfl (beT k7)) (fl_lt (lt_load_box rfl ty40 rfl rfl rfl))) (owF (by kernel_rfl) (fo_l [] rfl rfl rfl (by kernel_rfl) (by kernel_rfl) (by kernel_rfl) (gi1 rfl rfl rfl (beT k7)) (fl_lt (lt_fa_box rfl f46_1 ty40 (by decide) rfl))) (owF (by kernel_rfl) (fo_l [] rfl rfl rfl (by kernel_rfl) (by kernel_rfl) (by kernel_rfl) (gi1 rfl rfl rfl (beT k7)) (fl_lt (lt_fa_box rfl f49_0 ty46 (by decide) rfl))) (oE tbok [] 2 (by kernel_rfl) (oL [] rfl (by kernel_rfl) (fl_call rfl Try.call10 rfl (by kernel_rfl) (by kernel_rfl) (trans_Empty_meets k6)) (oE tbok [] 1 (by kernel_rfl) trivial)))))))))))))))))))))))))))))))))) (sub_cons rfl sub_nil) wM ?_
              obtain rfl := retE h
              refine mN ?_
              refine w_cut 0 rfl rfl rfl rfl ?_
              exact wkE (by kernel_rfl) (by kernel_rfl)
            · have h := iteF h k14
              refine ds (t := 51) 30 rfl ?_
              refine ds (t := 52) 31 rfl ?_
              refine ds (t := 53) 32 rfl ?_
              refine dl (t := 54) 33 [.c (.pv (.bool false))] rfl ?_
              refine dl (t := 0) 34 [.c (.pv (.bool false))] rfl ?_
              refine d_endS (env2 := [(0, [.c (.pv (.bool false))])]) (wm [0, 1, 3, 7, 15, 31, 63, 127, 255, 511, 1023, 2047, 4095, 8191, 16383, 32767, 2047, 131071, 262143, 524287, 1048575, 2097151, 4194303, 8388607, 16777215, 33554431, 67108863, 134217727, 268435455, 536870911, 1073741823, 2147483647, 4294967295, 8589934591, 17179869183]) (by kernel_rfl) (by kernel_rfl) (by kernel_rfl) (oE tbok [] 1 (by kernel_rfl) (oL [] rfl (by kernel_rfl) (fl_lt (lt_pickF rfl rfl k14 rfl)) (owF (by kernel_rfl) (fo_s [] rfl rfl rfl (by kernel_rfl) (by kernel_rfl) (by kernel_rfl) (gi1 rfl rfl rfl (beF k14))) (owF (by kernel_rfl) (fo_s [] rfl rfl rfl (by kernel_rfl) (by kernel_rfl) (by kernel_rfl) (gi1 rfl rfl rfl (beF k14))) (owF (by kernel_rfl) (fo_s [] rfl rfl rfl (by kernel_rfl) (by kernel_rfl) (by kernel_rfl) (gi1 rfl rfl rfl (beF k14))) (oE tbok [] 1 (by kernel_rfl) (oL [] rfl (by kernel_rfl) (fl_lt (lt_pickT rfl rfl k13 rfl)) (owF (by kernel_rfl) (fo_l [] rfl rfl rfl (by kernel_rfl) (by kernel_rfl) (by kernel_rfl) (gi1 rfl rfl rfl (beT k13)) (fl_lt (lt_int rfl rfl rfl rfl))) (owF (by kernel_rfl) (fo_l [] rfl rfl rfl (by kernel_rfl) (by kernel_rfl) (by kernel_rfl) (gi1 rfl rfl rfl (beT k13)) (fl_lt (len_sl (e := e_i64) rfl u33 rfl))) (owF (by kernel_rfl) (fo_l [] rfl rfl rfl (by kernel_rfl) (by kernel_rfl) (by kernel_rfl) (gi1 rfl rfl rfl (beT k13)) (fl_lt (lt_move rfl rfl))) (oE tbok [] 1 (by kernel_rfl) (oL [] rfl (by kernel_rfl) (fl_lt (lt_pickT rfl rfl k12 rfl)) (owF (by kernel_rfl) (fo_l [] rfl rfl rfl (by kernel_rfl) (by kernel_rfl) (by kernel_rfl) (gi1 rfl rfl rfl (beT k12)) (fl_lt (lt_int rfl rfl rfl rfl))) (owF (by kernel_rfl) (fo_l [] rfl rfl rfl (by kernel_rfl) (by kernel_rfl) (by kernel_rfl) (gi1 rfl rfl rfl (beT k12)) (fl_lt (lt_load_box rfl ty3 rfl rfl rfl))) (owF (by kernel_rfl) (fo_l [] rfl rfl rfl (by kernel_rfl) (by kernel_rfl) (by kernel_rfl) (gi1 rfl rfl rfl (beT k12)) (fl_lt (lt_fa_box rfl f55_0 ty3 (by decide) rfl))) (oE tbok [] 1 (by kernel_rfl) (oL [] rfl (by kernel_rfl) (fl_lt (lt_pickT rfl rfl k8 rfl)) (owF (by kernel_rfl) (fo_l [] rfl rfl rfl (by kernel_rfl) (by kernel_rfl) (by kernel_rfl) (gi1 rfl rfl rfl (beT k8)) (fl_lt (lt_eqStruct (r := ((v7.Lo : Int) == v9.Lo && ((v7.Hi : Int) == v9.Hi && true))) rfl u53 sp53 eg53 rfl rfl (by kernel_rfl) (.inl ⟨rfl, rfl⟩)))) (owF (by kernel_rfl) (fo_l [] rfl rfl rfl (by kernel_rfl) (by kernel_rfl) (by kernel_rfl) (gi1 rfl rfl rfl (beT k8)) (fl_call rfl Try.call15 rfl (by kernel_rfl) (by kernel_rfl) (itv_Const_meets k11))) (owF (by kernel_rfl) (fo_l [] rfl rfl rfl (by kernel_rfl) (by kernel_rfl) (by kernel_rfl) (gi1 rfl rfl rfl (beT k8)) (fl_lt (lt_load_epA (ys := [.pv (.int .i64 v7.Lo), .pv (.int .i64 v7.Hi)]) rfl ty53 rfl (Nat.le_of_ble_eq_true rfl) (by kernel_rfl)))) (owF (by kernel_rfl) (fo_l [] rfl rfl rfl (by kernel_rfl) (by kernel_rfl) (by kernel_rfl) (gi1 rfl rfl rfl (beT k8)) (fl_lt (ia_sl (e := e_itv_Itv) (y := v7) rfl u40 ty53 rfl rfl k9 rfl))) (owF (by kernel_rfl) (fo_l [] rfl rfl rfl (by kernel_rfl) (by kernel_rfl) (by kernel_rfl) (gi1 rfl rfl rfl (beT k8)) (fl_lt (lt_load_box rfl ty40 rfl rfl rfl))) (owF (by kernel_rfl) (fo_l [] rfl rfl rfl (by kernel_rfl) (by kernel_rfl) (by kernel_rfl) (gi1 rfl rfl rfl (beT k8)) (fl_lt (lt_fa_box rfl f46_1 ty40 (by decide) rfl))) (owF (by kernel_rfl) (fo_l [] rfl rfl rfl (by kernel_rfl) (by kernel_rfl) (by kernel_rfl) (gi1 rfl rfl rfl (beT k8)) (fl_lt (lt_fa_box rfl f49_0 ty46 (by decide) rfl))) (oE tbok [] 1 (by kernel_rfl) (oL [] rfl (by kernel_rfl) (fl_lt (lt_pickT rfl rfl k7 rfl)) (owF (by kernel_rfl) (fo_l [] rfl rfl rfl (by kernel_rfl) (by kernel_rfl) (by kernel_rfl) (gi1 rfl rfl rfl (beT k7)) (fl_lt (lt_int rfl rfl rfl rfl))) (owF (by kernel_rfl) (fo_l [] rfl rfl rfl (by kernel_rfl) (by kernel_rfl) (by kernel_rfl) (gi1 rfl rfl rfl (beT k7)) (fl_lt (len_sl (e := e_itv_Itv) rfl u40 rfl))) (owF (by kernel_rfl) (fo_l [] rfl rfl rfl (by kernel_rfl) (by kernel_rfl) (by kernel_rfl) (gi1 rfl rfl rfl (beT k7)) (fl_lt (lt_load_box rfl ty40 rfl rfl rfl))) (owF (by kernel_rfl) (fo_l [] rfl rfl rfl (by kernel_rfl) (by kernel_rfl) (by kernel_rfl) (gi1 rfl rfl rfl (beT k7)) (fl_lt (lt_fa_box rfl f46_1 ty40 (by decide) rfl))) (owF (by kernel_rfl) (fo_l [] rfl rfl rfl (by kernel_rfl) (by kernel_rfl) (by kernel_rfl) (gi1 rfl rfl rfl (beT k7)) (fl_lt (lt_fa_box rfl f49_0 ty46 (by decide) rfl))) (oE tbok [] 2 (by kernel_rfl) (oL [] rfl (by kernel_rfl) (fl_call rfl Try.call10 rfl (by kernel_rfl) (by kernel_rfl) (trans_Empty_meets k6)) (oE tbok [] 1 (by kernel_rfl) trivial)))))))))))))))))))))))))))))))))) (sub_cons rfl sub_nil) wM ?_
              obtain rfl := retE h
              refine mN ?_
              refine w_cut 0 rfl rfl rfl rfl ?_
              exact wkE (by kernel_rfl) (by kernel_rfl)
          · have h := iteF h k13
            refine ds (t := 46) 25 rfl ?_
            refine ds (t := 47) 26 rfl ?_
            refine ds (t := 48) 27 rfl ?_
            refine dl (t := 49) 28 [.c (.pv (.bool false))] rfl ?_
            refine dl (t := 50) 29 [.c (.pv (.bool false))] rfl ?_
            refine ds (t := 51) 30 rfl ?_
            refine ds (t := 52) 31 rfl ?_
            refine ds (t := 53) 32 rfl ?_
            refine dl (t := 54) 33 [.c (.pv (.bool false))] rfl ?_
            refine dl (t := 0) 34 [.c (.pv (.bool false))] rfl ?_
            refine d_endS (env2 := [(0, [.c (.pv (.bool false))])]) (wm [0, 1, 3, 7, 15, 31, 63, 127, 255, 511, 1023, 2047, 4095, 8191, 16383, 32767, 2047, 131071, 262143, 524287, 1048575, 2097151, 4194303, 8388607, 16777215, 33554431, 67108863, 134217727, 268435455, 536870911, 1073741823, 2147483647, 4294967295, 8589934591, 17179869183]) (by kernel_rfl) (by kernel_rfl) (by kernel_rfl) (oE tbok [] 1 (by kernel_rfl) (oL [] rfl (by kernel_rfl) (fl_lt (lt_pickF rfl rfl rfl rfl)) (owF (by kernel_rfl) (fo_s [] rfl rfl rfl (by kernel_rfl) (by kernel_rfl) (by kernel_rfl) (gi1 rfl rfl rfl (beF rfl))) (owF (by kernel_rfl) (fo_s [] rfl rfl rfl (by kernel_rfl) (by kernel_rfl) (by kernel_rfl) (gi1 rfl rfl rfl (beF rfl))) (owF (by kernel_rfl) (fo_s [] rfl rfl rfl (by kernel_rfl) (by kernel_rfl) (by kernel_rfl) (gi1 rfl rfl rfl (beF rfl))) (oE tbok [] 1 (by kernel_rfl) (oL [] rfl (by kernel_rfl) (fl_lt (lt_pickF rfl rfl k13 rfl)) (owF (by kernel_rfl) (fo_s [] rfl rfl rfl (by kernel_rfl) (by kernel_rfl) (by kernel_rfl) (gi1 rfl rfl rfl (beF k13))) (owF (by kernel_rfl) (fo_s [] rfl rfl rfl (by kernel_rfl) (by kernel_rfl) (by kernel_rfl) (gi1 rfl rfl rfl (beF k13))) (owF (by kernel_rfl) (fo_s [] rfl rfl rfl (by kernel_rfl) (by kernel_rfl) (by kernel_rfl) (gi1 rfl rfl rfl (beF k13))) (oE tbok [] 1 (by kernel_rfl) (oL [] rfl (by kernel_rfl) (fl_lt (lt_pickT rfl rfl k12 rfl)) (owF (by kernel_rfl) (fo_l [] rfl rfl rfl (by kernel_rfl) (by kernel_rfl) (by kernel_rfl) (gi1 rfl rfl rfl (beT k12)) (fl_lt (lt_int rfl rfl rfl rfl))) (owF (by kernel_rfl) (fo_l [] rfl rfl rfl (by kernel_rfl) (by kernel_rfl) (by kernel_rfl) (gi1 rfl rfl rfl (beT k12)) (fl_lt (lt_load_box rfl ty3 rfl rfl rfl))) (owF (by kernel_rfl) (fo_l [] rfl rfl rfl (by kernel_rfl) (by kernel_rfl) (by kernel_rfl) (gi1 rfl rfl rfl (beT k12)) (fl_lt (lt_fa_box rfl f55_0 ty3 (by decide) rfl))) (oE tbok [] 1 (by kernel_rfl) (oL [] rfl (by kernel_rfl) (fl_lt (lt_pickT rfl rfl k8 rfl)) (owF (by kernel_rfl) (fo_l [] rfl rfl rfl (by kernel_rfl) (by kernel_rfl) (by kernel_rfl) (gi1 rfl rfl rfl (beT k8)) (fl_lt (lt_eqStruct (r := ((v7.Lo : Int) == v9.Lo && ((v7.Hi : Int) == v9.Hi && true))) rfl u53 sp53 eg53 rfl rfl (by kernel_rfl) (.inl ⟨rfl, rfl⟩)))) (owF (by kernel_rfl) (fo_l [] rfl rfl rfl (by kernel_rfl) (by kernel_rfl) (by kernel_rfl) (gi1 rfl rfl rfl (beT k8)) (fl_call rfl Try.call15 rfl (by kernel_rfl) (by kernel_rfl) (itv_Const_meets k11))) (owF (by kernel_rfl) (fo_l [] rfl rfl rfl (by kernel_rfl) (by kernel_rfl) (by kernel_rfl) (gi1 rfl rfl rfl (beT k8)) (fl_lt (lt_load_epA (ys := [.pv (.int .i64 v7.Lo), .pv (.int .i64 v7.Hi)]) rfl ty53 rfl (Nat.le_of_ble_eq_true rfl) (by kernel_rfl)))) (owF (by kernel_rfl) (fo_l [] rfl rfl rfl (by kernel_rfl) (by kernel_rfl) (by kernel_rfl) (gi1 rfl rfl rfl (beT k8)) (fl_lt (ia_sl (e := e_itv_Itv) (y := v7) rfl u40 ty53 rfl rfl k9 rfl))) (owF (by kernel_rfl) (fo_l [] rfl rfl rfl (by kernel_rfl) (by kernel_rfl) (by kernel_rfl) (gi1 rfl rfl rfl (beT k8)) (fl_lt (lt_load_box rfl ty40 rfl rfl rfl))) (owF (by kernel_rfl) (fo_l [] rfl rfl rfl (by kernel_rfl) (by kernel_rfl) (by kernel_rfl) (gi1 rfl rfl rfl (beT k8)) (fl_lt (lt_fa_box rfl f46_1 ty40 (by decide) rfl))) (owF (by kernel_rfl) (fo_l [] rfl rfl rfl (by kernel_rfl) (by kernel_rfl) (by kernel_rfl) (gi1 rfl rfl rfl (beT k8)) (fl_lt (lt_fa_box rfl f49_0 ty46 (by decide) rfl))) (oE tbok [] 1 (by kernel_rfl) (oL [] rfl (by kernel_rfl) (fl_lt (lt_pickT rfl rfl k7 rfl)) (owF (by kernel_rfl) (fo_l [] rfl rfl rfl (by kernel_rfl) (by kernel_rfl) (by kernel_rfl) (gi1 rfl rfl rfl (beT k7)) (fl_lt (lt_int rfl rfl rfl rfl))) (owF (by kernel_rfl) (fo_l [] rfl rfl rfl (by kernel_rfl) (by kernel_rfl) (by kernel_rfl) (gi1 rfl rfl rfl (beT k7)) (fl_lt (len_sl (e := e_itv_Itv) rfl u40 rfl))) (owF (by kernel_rfl) (fo_l [] rfl rfl rfl (by kernel_rfl) (by kernel_rfl) (by kernel_rfl) (gi1 rfl rfl rfl (beT k7)) (fl_lt (lt_load_box rfl ty40 rfl rfl rfl))) (owF (by kernel_rfl) (fo_l [] rfl rfl rfl (by kernel_rfl) (by kernel_rfl) (by kernel_rfl) (gi1 rfl rfl rfl (beT k7)) (fl_lt (lt_fa_box rfl f46_1 ty40 (by decide) rfl))) (owF (by kernel_rfl) (fo_l [] rfl rfl rfl (by kernel_rfl) (by kernel_rfl) (by kernel_rfl) (gi1 rfl rfl rfl (beT k7)) (fl_lt (lt_fa_box rfl f49_0 ty46 (by decide) rfl))) (oE tbok [] 2 (by kernel_rfl) (oL [] rfl (by kernel_rfl) (fl_call rfl Try.call10 rfl (by kernel_rfl) (by kernel_rfl) (trans_Empty_meets k6)) (oE tbok [] 1 (by kernel_rfl) trivial)))))))))))))))))))))))))))))))))) (sub_cons rfl sub_nil) wM ?_
            obtain rfl := retE h
            refine mN ?_
            refine w_cut 0 rfl rfl rfl rfl ?_
            exact wkE (by kernel_rfl) (by kernel_rfl)
        · have h := iteF h k12
          refine ds (t := 41) 20 rfl ?_
          refine ds (t := 42) 21 rfl ?_
          refine ds (t := 43) 22 rfl ?_
          refine dl (t := 44) 23 [.c (.pv (.bool false))] rfl ?_
          refine dl (t := 45) 24 [.c (.pv (.bool false))] rfl ?_
          refine ds (t := 46) 25 rfl ?_
          refine ds (t := 47) 26 rfl ?_
          refine ds (t := 48) 27 rfl ?_
          refine dl (t := 49) 28 [.c (.pv (.bool false))] rfl ?_
          refine dl (t := 50) 29 [.c (.pv (.bool false))] rfl ?_
          refine ds (t := 51) 30 rfl ?_
          refine ds (t := 52) 31 rfl ?_
          refine ds (t := 53) 32 rfl ?_
          refine dl (t := 54) 33 [.c (.pv (.bool false))] rfl ?_
          refine dl (t := 0) 34 [.c (.pv (.bool false))] rfl ?_
          refine d_endS (env2 := [(0, [.c (.pv (.bool false))])]) (wm [0, 1, 3, 7, 15, 31, 63, 127, 255, 511, 1023, 2047, 4095, 8191, 16383, 32767, 2047, 131071, 262143, 524287, 1048575, 2097151, 4194303, 8388607, 16777215, 33554431, 67108863, 134217727, 268435455, 536870911, 1073741823, 2147483647, 4294967295, 8589934591, 17179869183]) (by kernel_rfl) (by kernel_rfl) (by kernel_rfl) (oE tbok [] 1 (by kernel_rfl) (oL [] rfl (by kernel_rfl) (fl_lt (lt_pickF rfl rfl rfl rfl)) (owF (by kernel_rfl) (fo_s [] rfl rfl rfl (by kernel_rfl) (by kernel_rfl) (by kernel_rfl) (gi1 rfl rfl rfl (beF rfl))) (owF (by kernel_rfl) (fo_s [] rfl rfl rfl (by kernel_rfl) (by kernel_rfl) (by kernel_rfl) (gi1 rfl rfl rfl (beF rfl))) (owF (by kernel_rfl) (fo_s [] rfl rfl rfl (by kernel_rfl) (by kernel_rfl) (by kernel_rfl) (gi1 rfl rfl rfl (beF rfl))) (oE tbok [] 1 (by kernel_rfl) (oL [] rfl (by kernel_rfl) (fl_lt (lt_pickF rfl rfl rfl rfl)) (owF (by kernel_rfl) (fo_s [] rfl rfl rfl (by kernel_rfl) (by kernel_rfl) (by kernel_rfl) (gi1 rfl rfl rfl (beF rfl))) (owF (by kernel_rfl) (fo_s [] rfl rfl rfl (by kernel_rfl) (by kernel_rfl) (by kernel_rfl) (gi1 rfl rfl rfl (beF rfl))) (owF (by kernel_rfl) (fo_s [] rfl rfl rfl (by kernel_rfl) (by kernel_rfl) (by kernel_rfl) (gi1 rfl rfl rfl (beF rfl))) (oE tbok [] 1 (by kernel_rfl) (oL [] rfl (by kernel_rfl) (fl_lt (lt_pickF rfl rfl k12 rfl)) (owF (by kernel_rfl) (fo_s [] rfl rfl rfl (by kernel_rfl) (by kernel_rfl) (by kernel_rfl) (gi1 rfl rfl rfl (beF k12))) (owF (by kernel_rfl) (fo_s [] rfl rfl rfl (by kernel_rfl) (by kernel_rfl) (by kernel_rfl) (gi1 rfl rfl rfl (beF k12))) (owF (by kernel_rfl) (fo_s [] rfl rfl rfl (by kernel_rfl) (by kernel_rfl) (by kernel_rfl) (gi1 rfl rfl rfl (beF k12))) (oE tbok [] 1 (by kernel_rfl) (oL [] rfl (by kernel_rfl) (fl_lt (lt_pickT rfl rfl k8 rfl)) (owF (by kernel_rfl) (fo_l [] rfl rfl rfl (by kernel_rfl) (by kernel_rfl) (by kernel_rfl) (gi1 rfl rfl rfl (beT k8)) (fl_lt (lt_eqStruct (r := ((v7.Lo : Int) == v9.Lo && ((v7.Hi : Int) == v9.Hi && true))) rfl u53 sp53 eg53 rfl rfl (by kernel_rfl) (.inl ⟨rfl, rfl⟩)))) (owF (by kernel_rfl) (fo_l [] rfl rfl rfl (by kernel_rfl) (by kernel_rfl) (by kernel_rfl) (gi1 rfl rfl rfl (beT k8)) (fl_call rfl Try.call15 rfl (by kernel_rfl) (by kernel_rfl) (itv_Const_meets k11))) (owF (by kernel_rfl) (fo_l [] rfl rfl rfl (by kernel_rfl) (by kernel_rfl) (by kernel_rfl) (gi1 rfl rfl rfl (beT k8)) (fl_lt (lt_load_epA (ys := [.pv (.int .i64 v7.Lo), .pv (.int .i64 v7.Hi)]) rfl ty53 rfl (Nat.le_of_ble_eq_true rfl) (by kernel_rfl)))) (owF (by kernel_rfl) (fo_l [] rfl rfl rfl (by kernel_rfl) (by kernel_rfl) (by kernel_rfl) (gi1 rfl rfl rfl (beT k8)) (fl_lt (ia_sl (e := e_itv_Itv) (y := v7) rfl u40 ty53 rfl rfl k9 rfl))) (owF (by kernel_rfl) (fo_l [] rfl rfl rfl (by kernel_rfl) (by kernel_rfl) (by kernel_rfl) (gi1 rfl rfl rfl (beT k8)) (fl_lt (lt_load_box rfl ty40 rfl rfl rfl))) (owF (by kernel_rfl) (fo_l [] rfl rfl rfl (by kernel_rfl) (by kernel_rfl) (by kernel_rfl) (gi1 rfl rfl rfl (beT k8)) (fl_lt (lt_fa_box rfl f46_1 ty40 (by decide) rfl))) (owF (by kernel_rfl) (fo_l [] rfl rfl rfl (by kernel_rfl) (by kernel_rfl) (by kernel_rfl) (gi1 rfl rfl rfl (beT k8)) (fl_lt (lt_fa_box rfl f49_0 ty46 (by decide) rfl))) (oE tbok [] 1 (by kernel_rfl) (oL [] rfl (by kernel_rfl) (fl_lt (lt_pickT rfl rfl k7 rfl)) (owF (by kernel_rfl) (fo_l [] rfl rfl rfl (by kernel_rfl) (by kernel_rfl) (by kernel_rfl) (gi1 rfl rfl rfl (beT k7)) (fl_lt (lt_int rfl rfl rfl rfl))) (owF (by kernel_rfl) (fo_l [] rfl rfl rfl (by kernel_rfl) (by kernel_rfl) (by kernel_rfl) (gi1 rfl rfl rfl (beT k7)) (fl_lt (len_sl (e := e_itv_Itv) rfl u40 rfl))) (owF (by kernel_rfl) (fo_l [] rfl rfl rfl (by kernel_rfl) (by kernel_rfl) (by kernel_rfl) (gi1 rfl rfl rfl (beT k7)) (fl_lt (lt_load_box rfl ty40 rfl rfl rfl))) (owF (by kernel_rfl) (fo_l [] rfl rfl rfl (by kernel_rfl) (by kernel_rfl) (by kernel_rfl) (gi1 rfl rfl rfl (beT k7)) (fl_lt (lt_fa_box rfl f46_1 ty40 (by decide) rfl))) (owF (by kernel_rfl) (fo_l [] rfl rfl rfl (by kernel_rfl) (by kernel_rfl) (by kernel_rfl) (gi1 rfl rfl rfl (beT k7)) (fl_lt (lt_fa_box rfl f49_0 ty46 (by decide) rfl))) (oE tbok [] 2 (by kernel_rfl) (oL [] rfl (by kernel_rfl) (fl_call rfl Try.call10 rfl (by kernel_rfl) (by kernel_rfl) (trans_Empty_meets k6)) (oE tbok [] 1 (by kernel_rfl) trivial)))))))))))))))))))))))))))))))))) (sub_cons rfl sub_nil) wM ?_
          obtain rfl := retE h
          refine mN ?_
          refine w_cut 0 rfl rfl rfl rfl ?_
          exact wkE (by kernel_rfl) (by kernel_rfl)
      · have h := iteF h k8
        refine ds (t := 32) 11 rfl ?_
        refine ds (t := 33) 12 rfl ?_
        refine ds (t := 34) 13 rfl ?_
        refine ds (t := 35) 14 rfl ?_
        refine ds (t := 36) 15 rfl ?_
        refine ds (t := 37) 16 rfl ?_
        refine ds (t := 38) 17 rfl ?_
        refine dl (t := 39) 18 [.c (.pv (.bool false))] rfl ?_
        refine dl (t := 40) 19 [.c (.pv (.bool false))] rfl ?_
        refine ds (t := 41) 20 rfl ?_
        refine ds (t := 42) 21 rfl ?_
        refine ds (t := 43) 22 rfl ?_
        refine dl (t := 44) 23 [.c (.pv (.bool false))] rfl ?_
        refine dl (t := 45) 24 [.c (.pv (.bool false))] rfl ?_
        refine ds (t := 46) 25 rfl ?_
        refine ds (t := 47) 26 rfl ?_
        refine ds (t := 48) 27 rfl ?_
        refine dl (t := 49) 28 [.c (.pv (.bool false))] rfl ?_
        refine dl (t := 50) 29 [.c (.pv (.bool false))] rfl ?_
        refine ds (t := 51) 30 rfl ?_
        refine ds (t := 52) 31 rfl ?_
        refine ds (t := 53) 32 rfl ?_
        refine dl (t := 54) 33 [.c (.pv (.bool false))] rfl ?_
        refine dl (t := 0) 34 [.c (.pv (.bool false))] rfl ?_
        refine d_endS (env2 := [(0, [.c (.pv (.bool false))])]) (wm [0, 1, 3, 7, 15, 31, 63, 127, 255, 511, 1023, 2047, 4095, 8191, 16383, 32767, 2047, 131071, 262143, 524287, 1048575, 2097151, 4194303, 8388607, 16777215, 33554431, 67108863, 134217727, 268435455, 536870911, 1073741823, 2147483647, 4294967295, 8589934591, 17179869183]) (by kernel_rfl) (by kernel_rfl) (by kernel_rfl) (oE tbok [] 1 (by kernel_rfl) (oL [] rfl (by kernel_rfl) (fl_lt (lt_pickF rfl rfl rfl rfl)) (owF (by kernel_rfl) (fo_s [] rfl rfl rfl (by kernel_rfl) (by kernel_rfl) (by kernel_rfl) (gi1 rfl rfl rfl (beF rfl))) (owF (by kernel_rfl) (fo_s [] rfl rfl rfl (by kernel_rfl) (by kernel_rfl) (by kernel_rfl) (gi1 rfl rfl rfl (beF rfl))) (owF (by kernel_rfl) (fo_s [] rfl rfl rfl (by kernel_rfl) (by kernel_rfl) (by kernel_rfl) (gi1 rfl rfl rfl (beF rfl))) (oE tbok [] 1 (by kernel_rfl) (oL [] rfl (by kernel_rfl) (fl_lt (lt_pickF rfl rfl rfl rfl)) (owF (by kernel_rfl) (fo_s [] rfl rfl rfl (by kernel_rfl) (by kernel_rfl) (by kernel_rfl) (gi1 rfl rfl rfl (beF rfl))) (owF (by kernel_rfl) (fo_s [] rfl rfl rfl (by kernel_rfl) (by kernel_rfl) (by kernel_rfl) (gi1 rfl rfl rfl (beF rfl))) (owF (by kernel_rfl) (fo_s [] rfl rfl rfl (by kernel_rfl) (by kernel_rfl) (by kernel_rfl) (gi1 rfl rfl rfl (beF rfl))) (oE tbok [] 1 (by kernel_rfl) (oL [] rfl (by kernel_rfl) (fl_lt (lt_pickF rfl rfl rfl rfl)) (owF (by kernel_rfl) (fo_s [] rfl rfl rfl (by kernel_rfl) (by kernel_rfl) (by kernel_rfl) (gi1 rfl rfl rfl (beF rfl))) (owF (by kernel_rfl) (fo_s [] rfl rfl rfl (by kernel_rfl) (by kernel_rfl) (by kernel_rfl) (gi1 rfl rfl rfl (beF rfl))) (owF (by kernel_rfl) (fo_s [] rfl rfl rfl (by kernel_rfl) (by kernel_rfl) (by kernel_rfl) (gi1 rfl rfl rfl (beF rfl))) (oE tbok [] 1 (by kernel_rfl) (oL [] rfl (by kernel_rfl) (fl_lt (lt_pickF rfl rfl k8 rfl)) (owF (by kernel_rfl) (fo_s [] rfl rfl rfl (by kernel_rfl) (by kernel_rfl) (by kernel_rfl) (gi1 rfl rfl rfl (beF k8))) (owF (by kernel_rfl) (fo_s [] rfl rfl rfl (by kernel_rfl) (by kernel_rfl) (by kernel_rfl) (gi1 rfl rfl rfl (beF k8))) (owF (by kernel_rfl) (fo_s [] rfl rfl rfl (by kernel_rfl) (by kernel_rfl) (by kernel_rfl) (gi1 rfl rfl rfl (beF k8))) (owF (by kernel_rfl) (fo_s [] rfl rfl rfl (by kernel_rfl) (by kernel_rfl) (by kernel_rfl) (gi1 rfl rfl rfl (beF k8))) (owF (by kernel_rfl) (fo_s [] rfl rfl rfl (by kernel_rfl) (by kernel_rfl) (by kernel_rfl) (gi1 rfl rfl rfl (beF k8))) (owF (by kernel_rfl) (fo_s [] rfl rfl rfl (by kernel_rfl) (by kernel_rfl) (by kernel_rfl) (gi1 rfl rfl rfl (beF k8))) (owF (by kernel_rfl) (fo_s [] rfl rfl rfl (by kernel_rfl) (by kernel_rfl) (by kernel_rfl) (gi1 rfl rfl rfl (beF k8))) (oE tbok [] 1 (by kernel_rfl) (oL [] rfl (by kernel_rfl) (fl_lt (lt_pickT rfl rfl k7 rfl)) (owF (by kernel_rfl) (fo_l [] rfl rfl rfl (by kernel_rfl) (by kernel_rfl) (by kernel_rfl) (gi1 rfl rfl rfl (beT k7)) (fl_lt (lt_int rfl rfl rfl rfl))) (owF (by kernel_rfl) (fo_l [] rfl rfl rfl (by kernel_rfl) (by kernel_rfl) (by kernel_rfl) (gi1 rfl rfl rfl (beT k7)) (fl_lt (len_sl (e := e_itv_Itv) rfl u40 rfl))) (owF (by kernel_rfl) (fo_l [] rfl rfl rfl (by kernel_rfl) (by kernel_rfl) (by kernel_rfl) (gi1 rfl rfl rfl (beT k7)) (fl_lt (lt_load_box rfl ty40 rfl rfl rfl))) (owF (by kernel_rfl) (fo_l [] rfl rfl rfl (by kernel_rfl) (by kernel_rfl) (by kernel_rfl) (gi1 rfl rfl rfl (beT k7)) (fl_lt (lt_fa_box rfl f46_1 ty40 (by decide) rfl))) (owF (by kernel_rfl) (fo_l [] rfl rfl rfl (by kernel_rfl) (by kernel_rfl) (by kernel_rfl) (gi1 rfl rfl rfl (beT k7)) (fl_lt (lt_fa_box rfl f49_0 ty46 (by decide) rfl))) (oE tbok [] 2 (by kernel_rfl) (oL [] rfl (by kernel_rfl) (fl_call rfl Try.call10 rfl (by kernel_rfl) (by kernel_rfl) (trans_Empty_meets k6)) (oE tbok [] 1 (by kernel_rfl) trivial)))))))))))))))))))))))))))))))))) (sub_cons rfl sub_nil) wM ?_
        obtain rfl := retE h
        refine mN ?_
        refine w_cut 0 rfl rfl rfl rfl ?_
        exact wkE (by kernel_rfl) (by kernel_rfl)
    · have h := iteF h k7
      refine ds (t := 25) 4 rfl ?_
      refine ds (t := 26) 5 rfl ?_
      refine ds (t := 27) 6 rfl ?_
      refine ds (t := 28) 7 rfl ?_
      refine ds (t := 29) 8 rfl ?_
      refine dl (t := 30) 9 [.c (.pv (.bool false))] rfl ?_
      refine dl (t := 31) 10 [.c (.pv (.bool false))] rfl ?_
      refine ds (t := 32) 11 rfl ?_
      refine ds (t := 33) 12 rfl ?_
      refine ds (t := 34) 13 rfl ?_
      refine ds (t := 35) 14 rfl ?_
      refine ds (t := 36) 15 rfl ?_
      refine ds (t := 37) 16 rfl ?_
      refine ds (t := 38) 17 rfl ?_
      refine dl (t := 39) 18 [.c (.pv (.bool false))] rfl ?_
      refine dl (t := 40) 19 [.c (.pv (.bool false))] rfl ?_
      refine ds (t := 41) 20 rfl ?_
      refine ds (t := 42) 21 rfl ?_
      refine ds (t := 43) 22 rfl ?_
      refine dl (t := 44) 23 [.c (.pv (.bool false))] rfl ?_
      refine dl (t := 45) 24 [.c (.pv (.bool false))] rfl ?_
      refine ds (t := 46) 25 rfl ?_
      refine ds (t := 47) 26 rfl ?_
      refine ds (t := 48) 27 rfl ?_
      refine dl (t := 49) 28 [.c (.pv (.bool false))] rfl ?_
      refine dl (t := 50) 29 [.c (.pv (.bool false))] rfl ?_
      refine ds (t := 51) 30 rfl ?_
      refine ds (t := 52) 31 rfl ?_
      refine ds (t := 53) 32 rfl ?_
      refine dl (t := 54) 33 [.c (.pv (.bool false))] rfl ?_
      refine dl (t := 0) 34 [.c (.pv (.bool false))] rfl ?_
      refine d_endS (env2 := [(0, [.c (.pv (.bool false))])]) (wm [0, 1, 3, 7, 15, 31, 63, 127, 255, 511, 1023, 2047, 4095, 8191, 16383, 32767, 2047, 131071, 262143, 524287, 1048575, 2097151, 4194303, 8388607, 16777215, 33554431, 67108863, 134217727, 268435455, 536870911, 1073741823, 2147483647, 4294967295, 8589934591, 17179869183]) (by kernel_rfl) (by kernel_rfl) (by kernel_rfl) (oE tbok [] 1 (by kernel_rfl) (oL [] rfl (by kernel_rfl) (fl_lt (lt_pickF rfl rfl rfl rfl)) (owF (by kernel_rfl) (fo_s [] rfl rfl rfl (by kernel_rfl) (by kernel_rfl) (by kernel_rfl) (gi1 rfl rfl rfl (beF rfl))) (owF (by kernel_rfl) (fo_s [] rfl rfl rfl (by kernel_rfl) (by kernel_rfl) (by kernel_rfl) (gi1 rfl rfl rfl (beF rfl))) (owF (by kernel_rfl) (fo_s [] rfl rfl rfl (by kernel_rfl) (by kernel_rfl) (by kernel_rfl) (gi1 rfl rfl rfl (beF rfl))) (oE tbok [] 1 (by kernel_rfl) (oL [] rfl (by kernel_rfl) (fl_lt (lt_pickF rfl rfl rfl rfl)) (owF (by kernel_rfl) (fo_s [] rfl rfl rfl (by kernel_rfl) (by kernel_rfl) (by kernel_rfl) (gi1 rfl rfl rfl (beF rfl))) (owF (by kernel_rfl) (fo_s [] rfl rfl rfl (by kernel_rfl) (by kernel_rfl) (by kernel_rfl) (gi1 rfl rfl rfl (beF rfl))) (owF (by kernel_rfl) (fo_s [] rfl rfl rfl (by kernel_rfl) (by kernel_rfl) (by kernel_rfl) (gi1 rfl rfl rfl (beF rfl))) (oE tbok [] 1 (by kernel_rfl) (oL [] rfl (by kernel_rfl) (fl_lt (lt_pickF rfl rfl rfl rfl)) (owF (by kernel_rfl) (fo_s [] rfl rfl rfl (by kernel_rfl) (by kernel_rfl) (by kernel_rfl) (gi1 rfl rfl rfl (beF rfl))) (owF (by kernel_rfl) (fo_s [] rfl rfl rfl (by kernel_rfl) (by kernel_rfl) (by kernel_rfl) (gi1 rfl rfl rfl (beF rfl))) (owF (by kernel_rfl) (fo_s [] rfl rfl rfl (by kernel_rfl) (by kernel_rfl) (by kernel_rfl) (gi1 rfl rfl rfl (beF rfl))) (oE tbok [] 1 (by kernel_rfl) (oL [] rfl (by kernel_rfl) (fl_lt (lt_pickF rfl rfl rfl rfl)) (owF (by kernel_rfl) (fo_s [] rfl rfl rfl (by kernel_rfl) (by kernel_rfl) (by kernel_rfl) (gi1 rfl rfl rfl (beF rfl))) (owF (by kernel_rfl) (fo_s [] rfl rfl rfl (by kernel_rfl) (by kernel_rfl) (by kernel_rfl) (gi1 rfl rfl rfl (beF rfl))) (owF (by kernel_rfl) (fo_s [] rfl rfl rfl (by kernel_rfl) (by kernel_rfl) (by kernel_rfl) (gi1 rfl rfl rfl (beF rfl))) (owF (by kernel_rfl) (fo_s [] rfl rfl rfl (by kernel_rfl) (by kernel_rfl) (by kernel_rfl) (gi1 rfl rfl rfl (beF rfl))) (owF (by kernel_rfl) (fo_s [] rfl rfl rfl (by kernel_rfl) (by kernel_rfl) (by kernel_rfl) (gi1 rfl rfl rfl (beF rfl))) (owF (by kernel_rfl) (fo_s [] rfl rfl rfl (by kernel_rfl) (by kernel_rfl) (by kernel_rfl) (gi1 rfl rfl rfl (beF rfl))) (owF (by kernel_rfl) (fo_s [] rfl rfl rfl (by kernel_rfl) (by kernel_rfl) (by kernel_rfl) (gi1 rfl rfl rfl (beF rfl))) (oE tbok [] 1 (by kernel_rfl) (oL [] rfl (by kernel_rfl) (fl_lt (lt_pickF rfl rfl k7 rfl)) (owF (by kernel_rfl) (fo_s [] rfl rfl rfl (by kernel_rfl) (by kernel_rfl) (by kernel_rfl) (gi1 rfl rfl rfl (beF k7))) (owF (by kernel_rfl) (fo_s [] rfl rfl rfl (by kernel_rfl) (by kernel_rfl) (by kernel_rfl) (gi1 rfl rfl rfl (beF k7))) (owF (by kernel_rfl) (fo_s [] rfl rfl rfl (by kernel_rfl) (by kernel_rfl) (by kernel_rfl) (gi1 rfl rfl rfl (beF k7))) (owF (by kernel_rfl) (fo_s [] rfl rfl rfl (by kernel_rfl) (by kernel_rfl) (by kernel_rfl) (gi1 rfl rfl rfl (beF k7))) (owF (by kernel_rfl) (fo_s [] rfl rfl rfl (by kernel_rfl) (by kernel_rfl) (by kernel_rfl) (gi1 rfl rfl rfl (beF k7))) (oE tbok [] 2 (by kernel_rfl) (oL [] rfl (by kernel_rfl) (fl_call rfl Try.call10 rfl (by kernel_rfl) (by kernel_rfl) (trans_Empty_meets k6)) (oE tbok [] 1 (by kernel_rfl) trivial)))))))))))))))))))))))))))))))))) (sub_cons rfl sub_nil) wM ?_
      obtain rfl := retE h
      refine mN ?_
      refine w_cut 0 rfl rfl rfl rfl ?_
      exact wkE (by kernel_rfl) (by kernel_rfl)
  · refine then_ ?_
    refine ret_ ?_
    obtain rfl := retE h
    refine rwr (rw_ (.tmp rfl .nil) ?_)
    exact wkE (by kernel_rfl) (by kernel_rfl)
end Go.Proofs.Ytbebnddalipfhaa.Abs
