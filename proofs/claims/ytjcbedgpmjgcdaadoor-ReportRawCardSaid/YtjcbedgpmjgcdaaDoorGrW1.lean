/- Gr: the walks. -/
import Derived.Test.YtjcbedgpmjgcdaaDoorGrW0
namespace Go.Proofs.YtjcbedgpmjgcdaaDoor.Abs
open Go Go.RowKit
set_option linter.unusedVariables false
set_option maxRecDepth 100000
set_option maxHeartbeats 4000000
theorem l17_ReportRaw_meets {a0 : l17_Raw} {r : Bool} (h : l17_ReportRaw a0 = some r) : MeetsV Tryd.prog GG 4 [.agg [.pv (.int .i64 a0.Steps), .pv (.sl (List.map e_r08_Itv a0.Nodes)), .pv (.bool a0.Never), .pv (.sl (List.map e_r08_Itv a0.Elem)), .pv (.sl (List.map e_fix_Alarm a0.Alarms))]] [.c (.pv (.bool r))] := by
  refine MeetsS.toV (meetsW_of (st0 := []) (N := 100) r_l17_ReportRaw o_l17_ReportRaw r Tryd.func4 rfl rfl rfl (by dsimp only [argEnv]) rfl ?_) rfl
  unfold l17_ReportRaw at h
  refine seq_ ?_
  refine region_ ?_
  refine B rfl rfl (bir_box rfl rfl rfl) rfl rfl .z ?_
  refine R tbok 1 [2, 1] [(2, [.c (.pv (.bool false))]), (1, [.c (.box 0 0)])] (by kernel_rfl) ?_
  refine ops_nil ?_
  refine then_ ?_
  refine seq_ ?_
  refine region_ ?_
  refine R tbok 2 [9, 2, 1] [(9, [.c (.pv (.bool a0.Never))]), (2, [.c (.pv (.bool false))]), (1, [.c (.box 0 0)])] (by kernel_rfl) ?_
  refine L rfl rfl (lt_build (cs := ([.pv (.bool a0.Never), .emp, .pv (.int .i64 0), .pv (.bool false)] ++ bs (e_T40 (arr (arr 0 []) [(arr 0 [0, 0, 0, 0, 0, 0, 0]), (arr 0 [0, 0, 0, 0, 0, 0, 0]), (arr 0 [0, 0, 0, 0, 0, 0, 0]), (arr 0 [0, 0, 0, 0, 0, 0, 0]), (arr 0 [0, 0, 0, 0, 0, 0, 0]), (arr 0 [0, 0, 0, 0, 0, 0, 0]), (arr 0 [0, 0, 0, 0, 0, 0, 0])])))) rfl st44 rfl (by kernel_rfl)) rfl ?_
  refine L rfl rfl (lt_build (cs := ([.pv (.bool a0.Never), .emp, .pv (.int .i64 0), .pv (.bool false)] ++ (bs (e_T40 (arr (arr 0 []) [(arr 0 [0, 0, 0, 0, 0, 0, 0]), (arr 0 [0, 0, 0, 0, 0, 0, 0]), (arr 0 [0, 0, 0, 0, 0, 0, 0]), (arr 0 [0, 0, 0, 0, 0, 0, 0]), (arr 0 [0, 0, 0, 0, 0, 0, 0]), (arr 0 [0, 0, 0, 0, 0, 0, 0]), (arr 0 [0, 0, 0, 0, 0, 0, 0])])) ++ [.emp, .emp]))) rfl st47 rfl (by kernel_rfl)) rfl ?_
  refine B rfl rfl (bir_alloc rfl z47 rfl rfl) rfl rfl (.s .z) ?_
  refine S rfl rfl rfl ty47 (by decide) rfl rfl rfl rfl rfl (.all rfl) (.s .z) ?_
  refine ops_nil ?_
  refine then_ ?_
  refine seq_ ?_
  refine seq_ ?_
  refine region_ ?_
  refine R tbok 1 [4, 3, 2, 1] [(4, [.c (.pv (.int .i64 0))]), (3, [.c (.box 1 0)]), (2, [.c (.pv (.bool false))]), (1, [.c (.box 0 0)])] (by kernel_rfl) ?_
  refine ops_nil ?_
  refine then_ ?_
  refine CodeT.weak (w_liftC 1 1 29 2 rfl rfl (.s .z) (.s .z) (.s (.s .z)) (Weak.refl _)) ?_
  refine lp_ (Qr := RW Tryd.prog GG Tryd.f4 0 r_l17_ReportRaw o_l17_ReportRaw) (l17_ReportRaw_l2 a0) (fun (x2 : (Int × trans_State × (List itv_Itv))) => (⟨100, 0, [(1, [.c (.box 0 0)]), (3, [.c (.box 1 0)]), (4, [.c (.pv (.int .i64 x2.1))])], [some (.box true 37 [.pv (.int .i64 a0.Steps), .pv (.sl (List.map e_r08_Itv a0.Nodes)), .pv (.bool a0.Never), .pv (.sl (List.map e_r08_Itv a0.Elem)), .pv (.sl (List.map e_fix_Alarm a0.Alarms))]), some (.box true 47 ([.pv (.bool x2.2.1.N.None), .row 2, .pv (.int .i64 x2.2.1.N.Z.N), .pv (.bool x2.2.1.N.Z.None)] ++ (bs (e_T40 x2.2.1.N.Z.D) ++ [.pv (.sl (List.map e_itv_Itv x2.2.1.Counts)), .pv (.sl (List.map e_rule_Set x2.2.1.Rules))]))), some (.row true true 29 2 (List.map e_itv_Itv x2.2.2))]⟩ : Sx)) (fun (j2 : (trans_State × (List itv_Itv))) => (⟨100, 0, [(1, [.c (.box 0 0)]), (3, [.c (.box 1 0)])], [some (.box true 37 [.pv (.int .i64 a0.Steps), .pv (.sl (List.map e_r08_Itv a0.Nodes)), .pv (.bool a0.Never), .pv (.sl (List.map e_r08_Itv a0.Elem)), .pv (.sl (List.map e_fix_Alarm a0.Alarms))]), some (.box true 47 ([.pv (.bool j2.1.N.None), .row 2, .pv (.int .i64 j2.1.N.Z.N), .pv (.bool j2.1.N.Z.None)] ++ (bs (e_T40 j2.1.N.Z.D) ++ [.pv (.sl (List.map e_itv_Itv j2.1.Counts)), .pv (.sl (List.map e_rule_Set j2.1.Rules))]))), some (.row true true 29 2 (List.map e_itv_Itv j2.2))]⟩ : Sx)) (0, (trans_State.mk (num_Num.mk a0.Never [] (zone_Zone.mk 0 false (arr (arr 0 []) [(arr 0 [0, 0, 0, 0, 0, 0, 0]), (arr 0 [0, 0, 0, 0, 0, 0, 0]), (arr 0 [0, 0, 0, 0, 0, 0, 0]), (arr 0 [0, 0, 0, 0, 0, 0, 0]), (arr 0 [0, 0, 0, 0, 0, 0, 0]), (arr 0 [0, 0, 0, 0, 0, 0, 0]), (arr 0 [0, 0, 0, 0, 0, 0, 0])]))) [] []), []) RW.only h wT ?_ (fun x2 o h => ?_) (fun r h s' hs => ?_) (fun j2 h => ?_)
  · refine w_sub (env' := [(1, [.c (.box 0 0)]), (3, [.c (.box 1 0)]), (4, [.c (.pv (.int .i64 0))])]) (sub_cons rfl (sub_cons rfl (sub_cons rfl sub_nil))) ?_
    refine w_ch 2 rfl (.s (.s .z)) ?_
    refine w_nil (env' := [(1, [.c (.box 0 0)]), (3, [.c (.box 1 0)]), (4, [.c (.pv (.int .i64 0))])]) (st' := [some (.box true 37 [.pv (.int .i64 a0.Steps), .pv (.sl (List.map e_r08_Itv a0.Nodes)), .pv (.bool a0.Never), .pv (.sl (List.map e_r08_Itv a0.Elem)), .pv (.sl (List.map e_fix_Alarm a0.Alarms))]), some (.box true 47 ([.pv (.bool a0.Never), .row 2, .pv (.int .i64 0), .pv (.bool false)] ++ (bs (e_T40 (arr (arr 0 []) [(arr 0 [0, 0, 0, 0, 0, 0, 0]), (arr 0 [0, 0, 0, 0, 0, 0, 0]), (arr 0 [0, 0, 0, 0, 0, 0, 0]), (arr 0 [0, 0, 0, 0, 0, 0, 0]), (arr 0 [0, 0, 0, 0, 0, 0, 0]), (arr 0 [0, 0, 0, 0, 0, 0, 0]), (arr 0 [0, 0, 0, 0, 0, 0, 0])])) ++ [.pv (.sl (List.map e_itv_Itv [])), .pv (.sl (List.map e_rule_Set []))]))), some (.row true true 29 2 (List.map e_itv_Itv []))]) rfl rfl ?_
    exact wkE (by kernel_rfl) (by kernel_rfl)
  · unfold l17_ReportRaw_l2 at h
    refine seq_ ?_
    refine seq_ ?_
    refine jn_ (fun (j3 : Bool) => (⟨100, 0, [(1, [.c (.box 0 0)]), (3, [.c (.box 1 0)]), (4, [.c (.pv (.int .i64 x2.1))]), (20, [.c (.pv (.bool j3))])], [some (.box true 37 [.pv (.int .i64 a0.Steps), .pv (.sl (List.map e_r08_Itv a0.Nodes)), .pv (.bool a0.Never), .pv (.sl (List.map e_r08_Itv a0.Elem)), .pv (.sl (List.map e_fix_Alarm a0.Alarms))]), some (.box true 47 ([.pv (.bool x2.2.1.N.None), .row 2, .pv (.int .i64 x2.2.1.N.Z.N), .pv (.bool x2.2.1.N.Z.None)] ++ (bs (e_T40 x2.2.1.N.Z.D) ++ [.pv (.sl (List.map e_itv_Itv x2.2.1.Counts)), .pv (.sl (List.map e_rule_Set x2.2.1.Rules))]))), some (.row true true 29 2 (List.map e_itv_Itv x2.2.2))]⟩ : Sx)) h wT (fun o h => ?_) (fun j3 h => ?_)
    · refine region_ ?_
      refine R tbok 3 [14, 12, 1, 3, 4] [(14, [.c (.pv (.sl (List.map e_r08_Itv a0.Nodes)))]), (12, [.c (.pv (.int .i64 x2.1))]), (1, [.c (.box 0 0)]), (3, [.c (.box 1 0)]), (4, [.c (.pv (.int .i64 x2.1))])] (by kernel_rfl) ?_
      refine L rfl rfl (len_sl (e := e_r08_Itv) rfl u34 rfl) rfl ?_
      refine R tbok 2 [17, 1, 3, 4] [(17, [.c (.pv (.bool (decide (x2.1 < (a0.Nodes.length : Int)))))]), (1, [.c (.box 0 0)]), (3, [.c (.box 1 0)]), (4, [.c (.pv (.int .i64 x2.1))])] (by kernel_rfl) ?_
      refine (tf (decide (x2.1 < (a0.Nodes.length : Int)))).elim (fun k1 => ?_) (fun k1 => ?_)
      · have h := iteT h k1
        refine Lg rfl rfl rfl k1 rfl (lt_move rfl rfl) rfl ?_
        refine Lg rfl rfl rfl k1 rfl (lt_int rfl rfl rfl rfl) rfl ?_
        refine L rfl rfl (lt_pickT rfl rfl k1 rfl) rfl ?_
        refine ops_nil ?_
        obtain rfl := retE h
        refine mN ?_
        refine w_sub (env' := [(1, [.c (.box 0 0)]), (3, [.c (.box 1 0)]), (4, [.c (.pv (.int .i64 x2.1))]), (20, [.c (.pv (.bool (decide (x2.1 < 9))))])]) (sub_cons rfl (sub_cons rfl (sub_cons rfl (sub_cons rfl sub_nil)))) ?_
        exact wkE (by kernel_rfl) (by kernel_rfl)
      · have h := iteF h k1
        refine Ls0 rfl rfl rfl k1 rfl rfl ?_
        refine Ls0 rfl rfl rfl k1 rfl rfl ?_
        refine L rfl rfl (lt_pickF rfl rfl k1 rfl) rfl ?_
        refine ops_nil ?_
        obtain rfl := retE h
        refine mN ?_
        refine w_sub (env' := [(1, [.c (.box 0 0)]), (3, [.c (.box 1 0)]), (4, [.c (.pv (.int .i64 x2.1))]), (20, [.c (.pv (.bool false))])]) (sub_cons rfl (sub_cons rfl (sub_cons rfl (sub_cons rfl sub_nil)))) ?_
        exact wkE (by kernel_rfl) (by kernel_rfl)
    · refine then_ ?_
      refine cond_ (b := j3) rfl (fun k2 => ?_) (fun k2 => ?_)
      · have h := iteT h k2
        refine skip_ ?_
        refine then_ ?_
        refine seq_ ?_
        refine block_ ?_
        refine drawn_ mixed ?_
        refine dl (t := 23) 0 [.c (.box 1 0)] rfl ?_
        refine dl (t := 24) 1 [.c (.box 1 1)] rfl ?_
        refine dl (t := 25) 2 [.c (.row 2)] rfl ?_
        refine dl (t := 26) 3 [.c (.box 0 1)] rfl ?_
        refine dl (t := 27) 4 [.c (.pv (.sl (List.map e_r08_Itv a0.Nodes)))] rfl ?_
        refine dl (t := 28) 5 [.c (.pv (.int .i64 x2.1))] rfl ?_
        obtain ⟨v1, k3, h⟩ := bindE h
        refine dl (t := 29) 6 [.c (.ep [.int .i64 v1.Lo, .int .i64 v1.Hi])] rfl ?_
        refine dl (t := 30) 7 [.c (.ep [.int .i64 v1.Lo, .int .i64 v1.Hi])] rfl ?_
        refine dl (t := 31) 8 [.c (.pv (.int .i64 v1.Lo))] rfl ?_
        refine dl (t := 32) 9 [.c (.box 0 1)] rfl ?_
        refine dl (t := 33) 10 [.c (.pv (.sl (List.map e_r08_Itv a0.Nodes)))] rfl ?_
        refine dl (t := 34) 11 [.c (.pv (.int .i64 x2.1))] rfl ?_
        obtain ⟨v2, k4, h⟩ := bindE h
        refine dl (t := 35) 12 [.c (.ep [.int .i64 v2.Lo, .int .i64 v2.Hi])] rfl ?_
        refine dl (t := 36) 13 [.c (.ep [.int .i64 v2.Hi])] rfl ?_
        refine dl (t := 37) 14 [.c (.pv (.int .i64 v2.Hi))] rfl ?_
        refine dl (t := 38) 15 [.agg [.pv (.int .i64 v1.Lo), .pv (.int .i64 v2.Hi)]] rfl ?_
        refine dl (t := 39) 16 [.c (.pv (.sl (List.map e_itv_Itv [(itv_Itv.mk v1.Lo v2.Hi)])))] rfl ?_
        obtain ⟨v3, k5, h⟩ := bindE h
        refine d_append (env1 := [(1, [.c (.box 0 0)]), (3, [.c (.box 1 0)]), (4, [.c (.pv (.int .i64 x2.1))]), (20, [.c (.pv (.bool j3))])]) (T1 := [⟨16, some 39, [.c (.pv (.sl (List.map e_itv_Itv [(itv_Itv.mk v1.Lo v2.Hi)])))], .light⟩, ⟨15, some 38, [.agg [.pv (.int .i64 v1.Lo), .pv (.int .i64 v2.Hi)]], .light⟩, ⟨14, some 37, [.c (.pv (.int .i64 v2.Hi))], .light⟩, ⟨13, some 36, [.c (.ep [.int .i64 v2.Hi])], .light⟩, ⟨12, some 35, [.c (.ep [.int .i64 v2.Lo, .int .i64 v2.Hi])], .light⟩, ⟨11, some 34, [.c (.pv (.int .i64 x2.1))], .light⟩, ⟨10, some 33, [.c (.pv (.sl (List.map e_r08_Itv a0.Nodes)))], .light⟩, ⟨9, some 32, [.c (.box 0 1)], .light⟩, ⟨8, some 31, [.c (.pv (.int .i64 v1.Lo))], .light⟩, ⟨7, some 30, [.c (.ep [.int .i64 v1.Lo, .int .i64 v1.Hi])], .light⟩, ⟨6, some 29, [.c (.ep [.int .i64 v1.Lo, .int .i64 v1.Hi])], .light⟩, ⟨5, some 28, [.c (.pv (.int .i64 x2.1))], .light⟩, ⟨4, some 27, [.c (.pv (.sl (List.map e_r08_Itv a0.Nodes)))], .light⟩, ⟨3, some 26, [.c (.box 0 1)], .light⟩, ⟨2, some 25, [.c (.any)], .light⟩, ⟨1, some 24, [.c (.box 1 1)], .light⟩, ⟨0, some 23, [.c (.box 1 0)], .light⟩]) (st' := [some (.box true 37 [.pv (.int .i64 a0.Steps), .pv (.sl (List.map e_r08_Itv a0.Nodes)), .pv (.bool a0.Never), .pv (.sl (List.map e_r08_Itv a0.Elem)), .pv (.sl (List.map e_fix_Alarm a0.Alarms))]), some (.box true 47 ([.pv (.bool x2.2.1.N.None), .any, .pv (.int .i64 x2.2.1.N.Z.N), .pv (.bool x2.2.1.N.Z.None)] ++ (bs (e_T40 x2.2.1.N.Z.D) ++ [.pv (.sl (List.map e_itv_Itv x2.2.1.Counts)), .pv (.sl (List.map e_rule_Set x2.2.1.Rules))]))), some (.row true true 29 2 (List.map e_itv_Itv v3))]) (wm [0, 1, 3, 0, 8, 0, 56, 120, 248, 0, 512, 0, 3584, 7680, 15872, 32760, 65528, 131071, 262143, 524287, 1048575]) 17 rfl (by kernel_rfl) (by kernel_rfl) (by kernel_rfl) (by kernel_rfl) (by kernel_rfl) (gi0 rfl) (oL [] rfl (by kernel_rfl) (fl_slice (List.map e_itv_Itv [(itv_Itv.mk v1.Lo v2.Hi)]) rfl sl38 rfl rfl rfl rfl rfl rfl rfl) (oL [] rfl (by kernel_rfl) (fl_lt (lt_build (cs := [.pv (.int .i64 v1.Lo), .pv (.int .i64 v2.Hi)]) rfl st29 rfl (by kernel_rfl))) (oE tbok [] 2 (by kernel_rfl) (oL [] rfl (by kernel_rfl) (fl_lt (ia_sl (e := e_r08_Itv) (y := v2) rfl u34 ty23 rfl rfl k4 rfl)) (oE tbok [] 5 (by kernel_rfl) (oL [] rfl (by kernel_rfl) (fl_lt (ia_sl (e := e_r08_Itv) (y := v1) rfl u34 ty23 rfl rfl k3 rfl)) (oE tbok [] 6 (by kernel_rfl) trivial))))))) rfl rfl rfl u38 te29 (by decide) rfl rfl rfl (.sl _) (ys := List.map e_itv_Itv [(itv_Itv.mk v1.Lo v2.Hi)]) rfl (app_len k5) rfl rfl (app_set (e := e_itv_Itv) k5 (by rfl)) ?_
        refine dl (t := 41) 18 [.c (.box 1 0)] rfl ?_
        refine dl (t := 42) 19 [.c (.box 1 1)] rfl ?_
        obtain ⟨v4, k6, h⟩ := bindE h
        refine d_store (cs' := ([.pv (.bool v4.N.None), .row 2, .pv (.int .i64 v4.N.Z.N), .pv (.bool v4.N.Z.None)] ++ (bs (e_T40 v4.N.Z.D) ++ [.pv (.sl (List.map e_itv_Itv v4.Counts)), .pv (.sl (List.map e_rule_Set v4.Rules))]))) (wm [0, 1, 3, 0, 8, 0, 56, 120, 248, 0, 512, 0, 3584, 7680, 15872, 32760, 65528, 131071, 262143, 524287, 1048575]) 20 rfl (by kernel_rfl) (by kernel_rfl) (by kernel_rfl) (by kernel_rfl) (by kernel_rfl) (gi0 rfl) (oE tbok [] 2 (by kernel_rfl) (oN 18 (by kernel_rfl) trivial)) rfl rfl ty38 rfl rfl rfl rfl rfl rfl (by rw [← retE k6]; kernel_rfl) (SetAt.eq (.s .z)) ?_
        refine d_endS (env2 := [(1, [.c (.box 0 0)]), (3, [.c (.box 1 0)]), (4, [.c (.pv (.int .i64 x2.1))])]) (wm [0, 1, 3, 0, 8, 0, 56, 120, 248, 0, 512, 0, 3584, 7680, 15872, 32760, 65528, 131071, 262143, 524287, 1048575]) (by kernel_rfl) (by kernel_rfl) (by kernel_rfl) (oN 21 (by kernel_rfl) trivial) (sub_cons rfl (sub_cons rfl (sub_cons rfl sub_nil))) (wB wT) ?_
        refine bN ?_
        refine then_ ?_
        refine region_ ?_
        refine R tbok 3 [4, 1, 3] [(4, [.c (.pv (.int .i64 (IntKind.i64.wrap (x2.1 + 1))))]), (1, [.c (.box 0 0)]), (3, [.c (.box 1 0)])] (by kernel_rfl) ?_
        refine ops_nil ?_
        obtain rfl := retE h
        refine lN ?_
        refine w_sub (env' := [(1, [.c (.box 0 0)]), (3, [.c (.box 1 0)]), (4, [.c (.pv (.int .i64 (IntKind.i64.wrap (x2.1 + 1))))])]) (sub_cons rfl (sub_cons rfl (sub_cons rfl sub_nil))) ?_
        exact wkE (by kernel_rfl) (by kernel_rfl)
      · have h := iteF h k2
        refine exit_ ?_
        refine tX ?_
        obtain rfl := retE h
        refine lX ?_
        refine w_sub (env' := [(1, [.c (.box 0 0)]), (3, [.c (.box 1 0)])]) (sub_cons rfl (sub_cons rfl sub_nil)) ?_
        exact wkE (by kernel_rfl) (by kernel_rfl)
  · cases h
  · have h := elimR h
    refine then_ ?_
    refine seq_ ?_
    refine region_ ?_
    obtain ⟨v5, k7, h⟩ := bindE h
    refine C rfl rfl (fl_call rfl Tryd.call19 rfl (by kernel_rfl) (by kernel_rfl) (itv_Of_meets k7)) rfl ?_
    refine L rfl rfl (lt_build (cs := [.pv (.int .i64 v5.Lo), .pv (.int .i64 v5.Hi), .emp]) rfl st50 rfl (by kernel_rfl)) rfl ?_
    refine B rfl rfl (bir_alloc rfl z50 rfl rfl) rfl rfl (.s (.s (.s .z))) ?_
    refine S rfl rfl rfl ty50 (by decide) rfl rfl rfl rfl rfl (.all rfl) (.s (.s (.s .z))) ?_
    refine ops_nil ?_
    refine then_ ?_
    refine seq_ ?_
    refine seq_ ?_
    refine region_ ?_
    refine R tbok 1 [6, 5, 1, 3] [(6, [.c (.pv (.int .i64 0))]), (5, [.c (.box 3 0)]), (1, [.c (.box 0 0)]), (3, [.c (.box 1 0)])] (by kernel_rfl) ?_
    refine ops_nil ?_
    refine then_ ?_
    refine CodeT.weak (w_liftC 3 2 29 2 rfl rfl (.s (.s .z)) (.s (.s (.s .z))) (.s (.s (.s (.s .z)))) (Weak.refl _)) ?_
    refine lp_ (Qr := RW Tryd.prog GG Tryd.f4 0 r_l17_ReportRaw o_l17_ReportRaw) (l17_ReportRaw_l5 a0) (fun (x5 : (Int × (List itv_Itv))) => (⟨100, 0, [(1, [.c (.box 0 0)]), (3, [.c (.box 1 0)]), (5, [.c (.box 3 0)]), (6, [.c (.pv (.int .i64 x5.1))])], [some (.box true 37 [.pv (.int .i64 a0.Steps), .pv (.sl (List.map e_r08_Itv a0.Nodes)), .pv (.bool a0.Never), .pv (.sl (List.map e_r08_Itv a0.Elem)), .pv (.sl (List.map e_fix_Alarm a0.Alarms))]), some (.box true 47 ([.pv (.bool j2.1.N.None), .row 2, .pv (.int .i64 j2.1.N.Z.N), .pv (.bool j2.1.N.Z.None)] ++ (bs (e_T40 j2.1.N.Z.D) ++ [.pv (.sl (List.map e_itv_Itv j2.1.Counts)), .pv (.sl (List.map e_rule_Set j2.1.Rules))]))), some (.row true true 29 2 (List.map e_itv_Itv j2.2)), some (.box true 50 [.pv (.int .i64 v5.Lo), .pv (.int .i64 v5.Hi), .row 4]), some (.row true true 29 2 (List.map e_itv_Itv x5.2))]⟩ : Sx)) (fun (j5 : (List itv_Itv)) => (⟨100, 0, [(1, [.c (.box 0 0)]), (3, [.c (.box 1 0)]), (5, [.c (.box 3 0)])], [some (.box true 37 [.pv (.int .i64 a0.Steps), .pv (.sl (List.map e_r08_Itv a0.Nodes)), .pv (.bool a0.Never), .pv (.sl (List.map e_r08_Itv a0.Elem)), .pv (.sl (List.map e_fix_Alarm a0.Alarms))]), some (.box true 47 ([.pv (.bool j2.1.N.None), .row 2, .pv (.int .i64 j2.1.N.Z.N), .pv (.bool j2.1.N.Z.None)] ++ (bs (e_T40 j2.1.N.Z.D) ++ [.pv (.sl (List.map e_itv_Itv j2.1.Counts)), .pv (.sl (List.map e_rule_Set j2.1.Rules))]))), some (.row true true 29 2 (List.map e_itv_Itv j2.2)), some (.box true 50 [.pv (.int .i64 v5.Lo), .pv (.int .i64 v5.Hi), .row 4]), some (.row true true 29 2 (List.map e_itv_Itv j5))]⟩ : Sx)) (0, []) RW.only h wT ?_ (fun x5 o h => ?_) (fun r h s' hs => ?_) (fun j5 h => ?_)
    · refine w_sub (env' := [(1, [.c (.box 0 0)]), (3, [.c (.box 1 0)]), (5, [.c (.box 3 0)]), (6, [.c (.pv (.int .i64 0))])]) (sub_cons rfl (sub_cons rfl (sub_cons rfl (sub_cons rfl sub_nil)))) ?_
      refine w_ch 4 rfl (.s (.s (.s (.s .z)))) ?_
      exact wkE (by kernel_rfl) (by kernel_rfl)
    · unfold l17_ReportRaw_l5 at h
      refine seq_ ?_
      refine seq_ ?_
      refine jn_ (fun (j6 : Bool) => (⟨100, 0, [(1, [.c (.box 0 0)]), (3, [.c (.box 1 0)]), (5, [.c (.box 3 0)]), (6, [.c (.pv (.int .i64 x5.1))]), (53, [.c (.pv (.bool j6))])], [some (.box true 37 [.pv (.int .i64 a0.Steps), .pv (.sl (List.map e_r08_Itv a0.Nodes)), .pv (.bool a0.Never), .pv (.sl (List.map e_r08_Itv a0.Elem)), .pv (.sl (List.map e_fix_Alarm a0.Alarms))]), some (.box true 47 ([.pv (.bool j2.1.N.None), .row 2, .pv (.int .i64 j2.1.N.Z.N), .pv (.bool j2.1.N.Z.None)] ++ (bs (e_T40 j2.1.N.Z.D) ++ [.pv (.sl (List.map e_itv_Itv j2.1.Counts)), .pv (.sl (List.map e_rule_Set j2.1.Rules))]))), some (.row true true 29 2 (List.map e_itv_Itv j2.2)), some (.box true 50 [.pv (.int .i64 v5.Lo), .pv (.int .i64 v5.Hi), .row 4]), some (.row true true 29 2 (List.map e_itv_Itv x5.2))]⟩ : Sx)) h wT (fun o h => ?_) (fun j6 h => ?_)
      · refine region_ ?_
        refine R tbok 3 [47, 45, 1, 3, 5, 6] [(47, [.c (.pv (.sl (List.map e_r08_Itv a0.Elem)))]), (45, [.c (.pv (.int .i64 x5.1))]), (1, [.c (.box 0 0)]), (3, [.c (.box 1 0)]), (5, [.c (.box 3 0)]), (6, [.c (.pv (.int .i64 x5.1))])] (by kernel_rfl) ?_
        refine L rfl rfl (len_sl (e := e_r08_Itv) rfl u34 rfl) rfl ?_
        refine R tbok 2 [50, 1, 3, 5, 6] [(50, [.c (.pv (.bool (decide (x5.1 < (a0.Elem.length : Int)))))]), (1, [.c (.box 0 0)]), (3, [.c (.box 1 0)]), (5, [.c (.box 3 0)]), (6, [.c (.pv (.int .i64 x5.1))])] (by kernel_rfl) ?_
        refine (tf (decide (x5.1 < (a0.Elem.length : Int)))).elim (fun k8 => ?_) (fun k8 => ?_)
        · have h := iteT h k8
          refine Lg rfl rfl rfl k8 rfl (lt_move rfl rfl) rfl ?_
          refine Lg rfl rfl rfl k8 rfl (lt_int rfl rfl rfl rfl) rfl ?_
          refine L rfl rfl (lt_pickT rfl rfl k8 rfl) rfl ?_
          refine ops_nil ?_
          obtain rfl := retE h
          refine mN ?_
          refine w_sub (env' := [(1, [.c (.box 0 0)]), (3, [.c (.box 1 0)]), (5, [.c (.box 3 0)]), (6, [.c (.pv (.int .i64 x5.1))]), (53, [.c (.pv (.bool (decide (x5.1 < 9))))])]) (sub_cons rfl (sub_cons rfl (sub_cons rfl (sub_cons rfl (sub_cons rfl sub_nil))))) ?_
          exact wkE (by kernel_rfl) (by kernel_rfl)
        · have h := iteF h k8
          refine Ls0 rfl rfl rfl k8 rfl rfl ?_
          refine Ls0 rfl rfl rfl k8 rfl rfl ?_
          refine L rfl rfl (lt_pickF rfl rfl k8 rfl) rfl ?_
          refine ops_nil ?_
          obtain rfl := retE h
          refine mN ?_
          refine w_sub (env' := [(1, [.c (.box 0 0)]), (3, [.c (.box 1 0)]), (5, [.c (.box 3 0)]), (6, [.c (.pv (.int .i64 x5.1))]), (53, [.c (.pv (.bool false))])]) (sub_cons rfl (sub_cons rfl (sub_cons rfl (sub_cons rfl (sub_cons rfl sub_nil))))) ?_
          exact wkE (by kernel_rfl) (by kernel_rfl)
      · refine then_ ?_
        refine cond_ (b := j6) rfl (fun k9 => ?_) (fun k9 => ?_)
        · have h := iteT h k9
          refine skip_ ?_
          refine then_ ?_
          refine seq_ ?_
          refine block_ ?_
          refine drawn_ mixed ?_
          refine dl (t := 56) 0 [.c (.box 3 2)] rfl ?_
          refine dl (t := 57) 1 [.c (.row 4)] rfl ?_
          refine dl (t := 58) 2 [.c (.box 0 3)] rfl ?_
          refine dl (t := 59) 3 [.c (.pv (.sl (List.map e_r08_Itv a0.Elem)))] rfl ?_
          refine dl (t := 60) 4 [.c (.pv (.int .i64 x5.1))] rfl ?_
          obtain ⟨v6, k10, h⟩ := bindE h
          refine dl (t := 61) 5 [.c (.ep [.int .i64 v6.Lo, .int .i64 v6.Hi])] rfl ?_
          refine dl (t := 62) 6 [.c (.ep [.int .i64 v6.Lo, .int .i64 v6.Hi])] rfl ?_
          refine dl (t := 63) 7 [.c (.pv (.int .i64 v6.Lo))] rfl ?_
          refine dl (t := 64) 8 [.c (.box 0 3)] rfl ?_
          refine dl (t := 65) 9 [.c (.pv (.sl (List.map e_r08_Itv a0.Elem)))] rfl ?_
          refine dl (t := 66) 10 [.c (.pv (.int .i64 x5.1))] rfl ?_
          obtain ⟨v7, k11, h⟩ := bindE h
          refine dl (t := 67) 11 [.c (.ep [.int .i64 v7.Lo, .int .i64 v7.Hi])] rfl ?_
          refine dl (t := 68) 12 [.c (.ep [.int .i64 v7.Hi])] rfl ?_
          refine dl (t := 69) 13 [.c (.pv (.int .i64 v7.Hi))] rfl ?_
          refine dl (t := 70) 14 [.agg [.pv (.int .i64 v6.Lo), .pv (.int .i64 v7.Hi)]] rfl ?_
          refine dl (t := 71) 15 [.c (.pv (.sl (List.map e_itv_Itv [(itv_Itv.mk v6.Lo v7.Hi)])))] rfl ?_
          obtain ⟨v8, k12, h⟩ := bindE h
          refine d_append (env1 := [(1, [.c (.box 0 0)]), (3, [.c (.box 1 0)]), (5, [.c (.box 3 0)]), (6, [.c (.pv (.int .i64 x5.1))]), (53, [.c (.pv (.bool j6))])]) (T1 := [⟨15, some 71, [.c (.pv (.sl (List.map e_itv_Itv [(itv_Itv.mk v6.Lo v7.Hi)])))], .light⟩, ⟨14, some 70, [.agg [.pv (.int .i64 v6.Lo), .pv (.int .i64 v7.Hi)]], .light⟩, ⟨13, some 69, [.c (.pv (.int .i64 v7.Hi))], .light⟩, ⟨12, some 68, [.c (.ep [.int .i64 v7.Hi])], .light⟩, ⟨11, some 67, [.c (.ep [.int .i64 v7.Lo, .int .i64 v7.Hi])], .light⟩, ⟨10, some 66, [.c (.pv (.int .i64 x5.1))], .light⟩, ⟨9, some 65, [.c (.pv (.sl (List.map e_r08_Itv a0.Elem)))], .light⟩, ⟨8, some 64, [.c (.box 0 3)], .light⟩, ⟨7, some 63, [.c (.pv (.int .i64 v6.Lo))], .light⟩, ⟨6, some 62, [.c (.ep [.int .i64 v6.Lo, .int .i64 v6.Hi])], .light⟩, ⟨5, some 61, [.c (.ep [.int .i64 v6.Lo, .int .i64 v6.Hi])], .light⟩, ⟨4, some 60, [.c (.pv (.int .i64 x5.1))], .light⟩, ⟨3, some 59, [.c (.pv (.sl (List.map e_r08_Itv a0.Elem)))], .light⟩, ⟨2, some 58, [.c (.box 0 3)], .light⟩, ⟨1, some 57, [.c (.any)], .light⟩, ⟨0, some 56, [.c (.box 3 2)], .light⟩]) (st' := [some (.box true 37 [.pv (.int .i64 a0.Steps), .pv (.sl (List.map e_r08_Itv a0.Nodes)), .pv (.bool a0.Never), .pv (.sl (List.map e_r08_Itv a0.Elem)), .pv (.sl (List.map e_fix_Alarm a0.Alarms))]), some (.box true 47 ([.pv (.bool j2.1.N.None), .row 2, .pv (.int .i64 j2.1.N.Z.N), .pv (.bool j2.1.N.Z.None)] ++ (bs (e_T40 j2.1.N.Z.D) ++ [.pv (.sl (List.map e_itv_Itv j2.1.Counts)), .pv (.sl (List.map e_rule_Set j2.1.Rules))]))), some (.row true true 29 2 (List.map e_itv_Itv j2.2)), some (.box true 50 [.pv (.int .i64 v5.Lo), .pv (.int .i64 v5.Hi), .any]), some (.row true true 29 2 (List.map e_itv_Itv v8))]) (wm [0, 1, 0, 4, 0, 28, 60, 124, 0, 256, 0, 1792, 3840, 7936, 16380, 32764, 65535, 131071, 262143]) 16 rfl (by kernel_rfl) (by kernel_rfl) (by kernel_rfl) (by kernel_rfl) (by kernel_rfl) (gi0 rfl) (oL [] rfl (by kernel_rfl) (fl_slice (List.map e_itv_Itv [(itv_Itv.mk v6.Lo v7.Hi)]) rfl sl38 rfl rfl rfl rfl rfl rfl rfl) (oL [] rfl (by kernel_rfl) (fl_lt (lt_build (cs := [.pv (.int .i64 v6.Lo), .pv (.int .i64 v7.Hi)]) rfl st29 rfl (by kernel_rfl))) (oE tbok [] 2 (by kernel_rfl) (oL [] rfl (by kernel_rfl) (fl_lt (ia_sl (e := e_r08_Itv) (y := v7) rfl u34 ty23 rfl rfl k11 rfl)) (oE tbok [] 5 (by kernel_rfl) (oL [] rfl (by kernel_rfl) (fl_lt (ia_sl (e := e_r08_Itv) (y := v6) rfl u34 ty23 rfl rfl k10 rfl)) (oE tbok [] 5 (by kernel_rfl) trivial))))))) rfl rfl rfl u38 te29 (by decide) rfl rfl rfl (.sl _) (ys := List.map e_itv_Itv [(itv_Itv.mk v6.Lo v7.Hi)]) rfl (app_len k12) rfl rfl (app_set (e := e_itv_Itv) k12 (by rfl)) ?_
          refine dl (t := 73) 17 [.c (.box 3 2)] rfl ?_
          refine d_store (wm [0, 1, 0, 4, 0, 28, 60, 124, 0, 256, 0, 1792, 3840, 7936, 16380, 32764, 65535, 131071, 262143]) 18 rfl (by kernel_rfl) (by kernel_rfl) (by kernel_rfl) (by kernel_rfl) (by kernel_rfl) (gi0 rfl) (oE tbok [] 1 (by kernel_rfl) (oN 17 (by kernel_rfl) trivial)) rfl rfl ty38 rfl rfl rfl rfl rfl rfl (putE 1 (.cons (.s (.s .z)) .nil) rfl (by decide)) (SetAt.eq (.s (.s (.s .z)))) ?_
          refine d_endS (env2 := [(1, [.c (.box 0 0)]), (3, [.c (.box 1 0)]), (5, [.c (.box 3 0)]), (6, [.c (.pv (.int .i64 x5.1))])]) (wm [0, 1, 0, 4, 0, 28, 60, 124, 0, 256, 0, 1792, 3840, 7936, 16380, 32764, 65535, 131071, 262143]) (by kernel_rfl) (by kernel_rfl) (by kernel_rfl) (oN 19 (by kernel_rfl) trivial) (sub_cons rfl (sub_cons rfl (sub_cons rfl (sub_cons rfl sub_nil)))) (wB wT) ?_
          refine bN ?_
          refine then_ ?_
          refine region_ ?_
          refine R tbok 3 [6, 1, 3, 5] [(6, [.c (.pv (.int .i64 (IntKind.i64.wrap (x5.1 + 1))))]), (1, [.c (.box 0 0)]), (3, [.c (.box 1 0)]), (5, [.c (.box 3 0)])] (by kernel_rfl) ?_
          refine ops_nil ?_
          obtain rfl := retE h
          refine lN ?_
          refine w_sub (env' := [(1, [.c (.box 0 0)]), (3, [.c (.box 1 0)]), (5, [.c (.box 3 0)]), (6, [.c (.pv (.int .i64 (IntKind.i64.wrap (x5.1 + 1))))])]) (sub_cons rfl (sub_cons rfl (sub_cons rfl (sub_cons rfl sub_nil)))) ?_
          exact wkE (by kernel_rfl) (by kernel_rfl)
        · have h := iteF h k9
          refine exit_ ?_
          refine tX ?_
          obtain rfl := retE h
          refine lX ?_
          refine w_sub (env' := [(1, [.c (.box 0 0)]), (3, [.c (.box 1 0)]), (5, [.c (.box 3 0)])]) (sub_cons rfl (sub_cons rfl (sub_cons rfl sub_nil))) ?_
          exact wkE (by kernel_rfl) (by kernel_rfl)
    · cases h
    · have h := elimR h
      refine then_ ?_
      refine seq_ ?_
      refine CodeT.weak (w_freeze (b := 2) (env' := [(1, [.c (.box 0 0)]), (3, [.c (.box 1 0)]), (5, [.c (.box 3 0)])]) (st' := [some (.box true 37 [.pv (.int .i64 a0.Steps), .pv (.sl (List.map e_r08_Itv a0.Nodes)), .pv (.bool a0.Never), .pv (.sl (List.map e_r08_Itv a0.Elem)), .pv (.sl (List.map e_fix_Alarm a0.Alarms))]), some (.box true 47 (bs (e_trans_State (trans_State.mk (num_Num.mk j2.1.N.None j2.2 j2.1.N.Z) j2.1.Counts j2.1.Rules)))), none, some (.box true 50 [.pv (.int .i64 v5.Lo), .pv (.int .i64 v5.Hi), .row 4]), some (.row true true 29 2 (List.map e_itv_Itv j5))]) rfl rfl rfl (Weak.refl _)) ?_
      refine CodeT.weak (w_freeze (b := 4) (env' := [(1, [.c (.box 0 0)]), (3, [.c (.box 1 0)]), (5, [.c (.box 3 0)])]) (st' := [some (.box true 37 [.pv (.int .i64 a0.Steps), .pv (.sl (List.map e_r08_Itv a0.Nodes)), .pv (.bool a0.Never), .pv (.sl (List.map e_r08_Itv a0.Elem)), .pv (.sl (List.map e_fix_Alarm a0.Alarms))]), some (.box true 47 (bs (e_trans_State (trans_State.mk (num_Num.mk j2.1.N.None j2.2 j2.1.N.Z) j2.1.Counts j2.1.Rules)))), none, some (.box true 50 [.pv (.int .i64 v5.Lo), .pv (.int .i64 v5.Hi), .pv (.sl (List.map e_itv_Itv j5))]), none]) rfl rfl rfl (Weak.refl _)) ?_
      refine drawn_ mixed ?_
      refine dl (t := 74) 0 [.c (.box 0 0)] rfl ?_
      refine dl (t := 75) 1 [.c (.pv (.int .i64 a0.Steps))] rfl ?_
      refine dl (t := 76) 2 [.agg (bs (e_trans_State (trans_State.mk (num_Num.mk j2.1.N.None j2.2 j2.1.N.Z) j2.1.Counts j2.1.Rules)))] rfl ?_
      refine dl (t := 77) 3 [.agg ([.pv (.bool false), .emp, .pv (.int .i64 0), .pv (.bool false)] ++ (bs (e_T40 (arr (arr 0 []) [(arr 0 [0, 0, 0, 0, 0, 0, 0]), (arr 0 [0, 0, 0, 0, 0, 0, 0]), (arr 0 [0, 0, 0, 0, 0, 0, 0]), (arr 0 [0, 0, 0, 0, 0, 0, 0]), (arr 0 [0, 0, 0, 0, 0, 0, 0]), (arr 0 [0, 0, 0, 0, 0, 0, 0]), (arr 0 [0, 0, 0, 0, 0, 0, 0])])) ++ [.emp, .emp]))] rfl ?_
      refine dl (t := 78) 4 [.c (.pv (.sl (List.map e_trans_State [(trans_State.mk (num_Num.mk j2.1.N.None j2.2 j2.1.N.Z) j2.1.Counts j2.1.Rules), (trans_State.mk (num_Num.mk false [] (zone_Zone.mk 0 false (arr (arr 0 []) [(arr 0 [0, 0, 0, 0, 0, 0, 0]), (arr 0 [0, 0, 0, 0, 0, 0, 0]), (arr 0 [0, 0, 0, 0, 0, 0, 0]), (arr 0 [0, 0, 0, 0, 0, 0, 0]), (arr 0 [0, 0, 0, 0, 0, 0, 0]), (arr 0 [0, 0, 0, 0, 0, 0, 0]), (arr 0 [0, 0, 0, 0, 0, 0, 0])]))) [] [])])))] rfl ?_
      refine dl (t := 79) 5 [.c (.pv (.sl (List.map e_trans_State [])))] rfl ?_
      refine dl (t := 80) 6 [.c (.pv (.sl (List.map e_sl51 [[(trans_State.mk (num_Num.mk j2.1.N.None j2.2 j2.1.N.Z) j2.1.Counts j2.1.Rules), (trans_State.mk (num_Num.mk false [] (zone_Zone.mk 0 false (arr (arr 0 []) [(arr 0 [0, 0, 0, 0, 0, 0, 0]), (arr 0 [0, 0, 0, 0, 0, 0, 0]), (arr 0 [0, 0, 0, 0, 0, 0, 0]), (arr 0 [0, 0, 0, 0, 0, 0, 0]), (arr 0 [0, 0, 0, 0, 0, 0, 0]), (arr 0 [0, 0, 0, 0, 0, 0, 0]), (arr 0 [0, 0, 0, 0, 0, 0, 0])]))) [] [])], []])))] rfl ?_
      refine dl (t := 81) 7 [.agg [.pv (.int .i64 v5.Lo), .pv (.int .i64 v5.Hi), .pv (.sl (List.map e_itv_Itv j5))]] rfl ?_
      refine dl (t := 82) 8 [.agg [.pv (.int .i64 0), .pv (.int .i64 0), .emp]] rfl ?_
      refine dl (t := 83) 9 [.c (.pv (.sl (List.map e_queue_Elem [(queue_Elem.mk v5 j5), (queue_Elem.mk (itv_Itv.mk 0 0) [])])))] rfl ?_
      refine dl (t := 84) 10 [.c (.box 0 4)] rfl ?_
      refine dl (t := 85) 11 [.c (.pv (.sl (List.map e_fix_Alarm a0.Alarms)))] rfl ?_
      refine dl (t := 86) 12 [.c (.box 0 4)] rfl ?_
      refine dl (t := 87) 13 [.c (.pv (.sl (List.map e_fix_Alarm a0.Alarms)))] rfl ?_
      refine dl (t := 88) 14 [.c (.pv (.int .i64 (a0.Alarms.length : Int)))] rfl ?_
      refine dl (t := 89) 15 [.c (.pv (.int .i64 (min (a0.Alarms.length : Int) 9)))] rfl ?_
      obtain ⟨v9, k13, h⟩ := bindE h
      refine dl (t := 90) 16 [.c (.pv (.sl (List.map e_fix_Alarm v9)))] rfl ?_
      refine dl (t := 91) 17 [.agg [.pv (.sl (List.map e_sl51 [[(trans_State.mk (num_Num.mk j2.1.N.None j2.2 j2.1.N.Z) j2.1.Counts j2.1.Rules), (trans_State.mk (num_Num.mk false [] (zone_Zone.mk 0 false (arr (arr 0 []) [(arr 0 [0, 0, 0, 0, 0, 0, 0]), (arr 0 [0, 0, 0, 0, 0, 0, 0]), (arr 0 [0, 0, 0, 0, 0, 0, 0]), (arr 0 [0, 0, 0, 0, 0, 0, 0]), (arr 0 [0, 0, 0, 0, 0, 0, 0]), (arr 0 [0, 0, 0, 0, 0, 0, 0]), (arr 0 [0, 0, 0, 0, 0, 0, 0])]))) [] [])], []])), .pv (.sl (List.map e_queue_Elem [(queue_Elem.mk v5 j5), (queue_Elem.mk (itv_Itv.mk 0 0) [])])), .pv (.sl (List.map e_fix_Alarm v9)), .pv (.int .i64 a0.Steps)]] rfl ?_
      refine db (t := 7) 18 5 [.c (.box 5 0)] ((.box true 55 [.emp, .emp, .emp, .pv (.int .i64 0)])) rfl rfl (Push.eq (.s (.s (.s (.s (.s .z)))))) ?_
      refine d_store (wm [0, 1, 0, 0, 12, 0, 60, 0, 0, 384, 0, 1024, 0, 4096, 12288, 28672, 64512, 131071, 0, 524287]) 19 rfl (by kernel_rfl) (by kernel_rfl) (by kernel_rfl) (by kernel_rfl) (by kernel_rfl) (gi0 rfl) (owF (by kernel_rfl) (fo_b [5] rfl rfl rfl (by kernel_rfl) (by kernel_rfl) (by kernel_rfl) (gi0 rfl) (bir_alloc rfl z55 rfl rfl) (by kernel_rfl) (by kernel_rfl)) (oL [5] rfl (by kernel_rfl) (fl_lt (lt_build (cs := [.pv (.sl (List.map e_sl51 [[(trans_State.mk (num_Num.mk j2.1.N.None j2.2 j2.1.N.Z) j2.1.Counts j2.1.Rules), (trans_State.mk (num_Num.mk false [] (zone_Zone.mk 0 false (arr (arr 0 []) [(arr 0 [0, 0, 0, 0, 0, 0, 0]), (arr 0 [0, 0, 0, 0, 0, 0, 0]), (arr 0 [0, 0, 0, 0, 0, 0, 0]), (arr 0 [0, 0, 0, 0, 0, 0, 0]), (arr 0 [0, 0, 0, 0, 0, 0, 0]), (arr 0 [0, 0, 0, 0, 0, 0, 0]), (arr 0 [0, 0, 0, 0, 0, 0, 0])]))) [] [])], []])), .pv (.sl (List.map e_queue_Elem [(queue_Elem.mk v5 j5), (queue_Elem.mk (itv_Itv.mk 0 0) [])])), .pv (.sl (List.map e_fix_Alarm v9)), .pv (.int .i64 a0.Steps)]) rfl st55 rfl (by kernel_rfl))) (oL [5] rfl (by kernel_rfl) (fl_lt (slice_sl (e := e_fix_Alarm) rfl u35 ty25 rfl bd0 (bd1 rfl) k13 (fun _ => rfl))) (oL [5] rfl (by kernel_rfl) (fl_lt (lt_min2 rfl rfl rfl)) (oL [5] rfl (by kernel_rfl) (fl_lt (len_sl (e := e_fix_Alarm) rfl u35 rfl)) (oE tbok [5] 4 (by kernel_rfl) (oL [5] rfl (by kernel_rfl) (fl_slice (List.map e_queue_Elem [(queue_Elem.mk v5 j5), (queue_Elem.mk (itv_Itv.mk 0 0) [])]) rfl sl53 rfl rfl rfl rfl rfl rfl rfl) (oL [5] rfl (by kernel_rfl) (fl_lt (lt_build (cs := [.pv (.int .i64 0), .pv (.int .i64 0), .emp]) rfl st50 rfl (by kernel_rfl))) (oE tbok [5] 1 (by kernel_rfl) (oL [5] rfl (by kernel_rfl) (fl_slice (List.map e_sl51 [[(trans_State.mk (num_Num.mk j2.1.N.None j2.2 j2.1.N.Z) j2.1.Counts j2.1.Rules), (trans_State.mk (num_Num.mk false [] (zone_Zone.mk 0 false (arr (arr 0 []) [(arr 0 [0, 0, 0, 0, 0, 0, 0]), (arr 0 [0, 0, 0, 0, 0, 0, 0]), (arr 0 [0, 0, 0, 0, 0, 0, 0]), (arr 0 [0, 0, 0, 0, 0, 0, 0]), (arr 0 [0, 0, 0, 0, 0, 0, 0]), (arr 0 [0, 0, 0, 0, 0, 0, 0]), (arr 0 [0, 0, 0, 0, 0, 0, 0])]))) [] [])], []]) rfl sl52 rfl rfl rfl rfl rfl rfl rfl) (oL [5] rfl (by kernel_rfl) (fl_slice (List.map e_trans_State []) rfl sl51 rfl rfl rfl rfl rfl rfl rfl) (oL [5] rfl (by kernel_rfl) (fl_slice (cs := [.pv (.bool j2.1.N.None), .pv (.sl (List.map e_itv_Itv j2.2)), .pv (.int .i64 j2.1.N.Z.N), .pv (.bool j2.1.N.Z.None), .pv (.int .i64 ((j2.1.N.Z.D 0) 0)), .pv (.int .i64 ((j2.1.N.Z.D 0) 1)), .pv (.int .i64 ((j2.1.N.Z.D 0) 2)), .pv (.int .i64 ((j2.1.N.Z.D 0) 3)), .pv (.int .i64 ((j2.1.N.Z.D 0) 4)), .pv (.int .i64 ((j2.1.N.Z.D 0) 5)), .pv (.int .i64 ((j2.1.N.Z.D 0) 6)), .pv (.int .i64 ((j2.1.N.Z.D 1) 0)), .pv (.int .i64 ((j2.1.N.Z.D 1) 1)), .pv (.int .i64 ((j2.1.N.Z.D 1) 2)), .pv (.int .i64 ((j2.1.N.Z.D 1) 3)), .pv (.int .i64 ((j2.1.N.Z.D 1) 4)), .pv (.int .i64 ((j2.1.N.Z.D 1) 5)), .pv (.int .i64 ((j2.1.N.Z.D 1) 6)), .pv (.int .i64 ((j2.1.N.Z.D 2) 0)), .pv (.int .i64 ((j2.1.N.Z.D 2) 1)), .pv (.int .i64 ((j2.1.N.Z.D 2) 2)), .pv (.int .i64 ((j2.1.N.Z.D 2) 3)), .pv (.int .i64 ((j2.1.N.Z.D 2) 4)), .pv (.int .i64 ((j2.1.N.Z.D 2) 5)), .pv (.int .i64 ((j2.1.N.Z.D 2) 6)), .pv (.int .i64 ((j2.1.N.Z.D 3) 0)), .pv (.int .i64 ((j2.1.N.Z.D 3) 1)), .pv (.int .i64 ((j2.1.N.Z.D 3) 2)), .pv (.int .i64 ((j2.1.N.Z.D 3) 3)), .pv (.int .i64 ((j2.1.N.Z.D 3) 4)), .pv (.int .i64 ((j2.1.N.Z.D 3) 5)), .pv (.int .i64 ((j2.1.N.Z.D 3) 6)), .pv (.int .i64 ((j2.1.N.Z.D 4) 0)), .pv (.int .i64 ((j2.1.N.Z.D 4) 1)), .pv (.int .i64 ((j2.1.N.Z.D 4) 2)), .pv (.int .i64 ((j2.1.N.Z.D 4) 3)), .pv (.int .i64 ((j2.1.N.Z.D 4) 4)), .pv (.int .i64 ((j2.1.N.Z.D 4) 5)), .pv (.int .i64 ((j2.1.N.Z.D 4) 6)), .pv (.int .i64 ((j2.1.N.Z.D 5) 0)), .pv (.int .i64 ((j2.1.N.Z.D 5) 1)), .pv (.int .i64 ((j2.1.N.Z.D 5) 2)), .pv (.int .i64 ((j2.1.N.Z.D 5) 3)), .pv (.int .i64 ((j2.1.N.Z.D 5) 4)), .pv (.int .i64 ((j2.1.N.Z.D 5) 5)), .pv (.int .i64 ((j2.1.N.Z.D 5) 6)), .pv (.int .i64 ((j2.1.N.Z.D 6) 0)), .pv (.int .i64 ((j2.1.N.Z.D 6) 1)), .pv (.int .i64 ((j2.1.N.Z.D 6) 2)), .pv (.int .i64 ((j2.1.N.Z.D 6) 3)), .pv (.int .i64 ((j2.1.N.Z.D 6) 4)), .pv (.int .i64 ((j2.1.N.Z.D 6) 5)), .pv (.int .i64 ((j2.1.N.Z.D 6) 6)), .pv (.sl (List.map e_itv_Itv j2.1.Counts)), .pv (.sl (List.map e_rule_Set j2.1.Rules)), .pv (.bool false), .emp, .pv (.int .i64 0), .pv (.bool false), .pv (.int .i64 0), .pv (.int .i64 0), .pv (.int .i64 0), .pv (.int .i64 0), .pv (.int .i64 0), .pv (.int .i64 0), .pv (.int .i64 0), .pv (.int .i64 0), .pv (.int .i64 0), .pv (.int .i64 0), .pv (.int .i64 0), .pv (.int .i64 0), .pv (.int .i64 0), .pv (.int .i64 0), .pv (.int .i64 0), .pv (.int .i64 0), .pv (.int .i64 0), .pv (.int .i64 0), .pv (.int .i64 0), .pv (.int .i64 0), .pv (.int .i64 0), .pv (.int .i64 0), .pv (.int .i64 0), .pv (.int .i64 0), .pv (.int .i64 0), .pv (.int .i64 0), .pv (.int .i64 0), .pv (.int .i64 0), .pv (.int .i64 0), .pv (.int .i64 0), .pv (.int .i64 0), .pv (.int .i64 0), .pv (.int .i64 0), .pv (.int .i64 0), .pv (.int .i64 0), .pv (.int .i64 0), .pv (.int .i64 0), .pv (.int .i64 0), .pv (.int .i64 0), .pv (.int .i64 0), .pv (.int .i64 0), .pv (.int .i64 0), .pv (.int .i64 0), .pv (.int .i64 0), .pv (.int .i64 0), .pv (.int .i64 0), .pv (.int .i64 0), .pv (.int .i64 0), .pv (.int .i64 0), .emp, .emp]) (pv := [.bool j2.1.N.None, .sl (List.map e_itv_Itv j2.2), .int .i64 j2.1.N.Z.N, .bool j2.1.N.Z.None, .int .i64 ((j2.1.N.Z.D 0) 0), .int .i64 ((j2.1.N.Z.D 0) 1), .int .i64 ((j2.1.N.Z.D 0) 2), .int .i64 ((j2.1.N.Z.D 0) 3), .int .i64 ((j2.1.N.Z.D 0) 4), .int .i64 ((j2.1.N.Z.D 0) 5), .int .i64 ((j2.1.N.Z.D 0) 6), .int .i64 ((j2.1.N.Z.D 1) 0), .int .i64 ((j2.1.N.Z.D 1) 1), .int .i64 ((j2.1.N.Z.D 1) 2), .int .i64 ((j2.1.N.Z.D 1) 3), .int .i64 ((j2.1.N.Z.D 1) 4), .int .i64 ((j2.1.N.Z.D 1) 5), .int .i64 ((j2.1.N.Z.D 1) 6), .int .i64 ((j2.1.N.Z.D 2) 0), .int .i64 ((j2.1.N.Z.D 2) 1), .int .i64 ((j2.1.N.Z.D 2) 2), .int .i64 ((j2.1.N.Z.D 2) 3), .int .i64 ((j2.1.N.Z.D 2) 4), .int .i64 ((j2.1.N.Z.D 2) 5), .int .i64 ((j2.1.N.Z.D 2) 6), .int .i64 ((j2.1.N.Z.D 3) 0), .int .i64 ((j2.1.N.Z.D 3) 1), .int .i64 ((j2.1.N.Z.D 3) 2), .int .i64 ((j2.1.N.Z.D 3) 3), .int .i64 ((j2.1.N.Z.D 3) 4), .int .i64 ((j2.1.N.Z.D 3) 5), .int .i64 ((j2.1.N.Z.D 3) 6), .int .i64 ((j2.1.N.Z.D 4) 0), .int .i64 ((j2.1.N.Z.D 4) 1), .int .i64 ((j2.1.N.Z.D 4) 2), .int .i64 ((j2.1.N.Z.D 4) 3), .int .i64 ((j2.1.N.Z.D 4) 4), .int .i64 ((j2.1.N.Z.D 4) 5), .int .i64 ((j2.1.N.Z.D 4) 6), .int .i64 ((j2.1.N.Z.D 5) 0), .int .i64 ((j2.1.N.Z.D 5) 1), .int .i64 ((j2.1.N.Z.D 5) 2), .int .i64 ((j2.1.N.Z.D 5) 3), .int .i64 ((j2.1.N.Z.D 5) 4), .int .i64 ((j2.1.N.Z.D 5) 5), .int .i64 ((j2.1.N.Z.D 5) 6), .int .i64 ((j2.1.N.Z.D 6) 0), .int .i64 ((j2.1.N.Z.D 6) 1), .int .i64 ((j2.1.N.Z.D 6) 2), .int .i64 ((j2.1.N.Z.D 6) 3), .int .i64 ((j2.1.N.Z.D 6) 4), .int .i64 ((j2.1.N.Z.D 6) 5), .int .i64 ((j2.1.N.Z.D 6) 6), .sl (List.map e_itv_Itv j2.1.Counts), .sl (List.map e_rule_Set j2.1.Rules), .bool false, .sl [], .int .i64 0, .bool false, .int .i64 0, .int .i64 0, .int .i64 0, .int .i64 0, .int .i64 0, .int .i64 0, .int .i64 0, .int .i64 0, .int .i64 0, .int .i64 0, .int .i64 0, .int .i64 0, .int .i64 0, .int .i64 0, .int .i64 0, .int .i64 0, .int .i64 0, .int .i64 0, .int .i64 0, .int .i64 0, .int .i64 0, .int .i64 0, .int .i64 0, .int .i64 0, .int .i64 0, .int .i64 0, .int .i64 0, .int .i64 0, .int .i64 0, .int .i64 0, .int .i64 0, .int .i64 0, .int .i64 0, .int .i64 0, .int .i64 0, .int .i64 0, .int .i64 0, .int .i64 0, .int .i64 0, .int .i64 0, .int .i64 0, .int .i64 0, .int .i64 0, .int .i64 0, .int .i64 0, .int .i64 0, .int .i64 0, .int .i64 0, .int .i64 0, .sl [], .sl []]) (List.map e_trans_State [(trans_State.mk (num_Num.mk j2.1.N.None j2.2 j2.1.N.Z) j2.1.Counts j2.1.Rules), (trans_State.mk (num_Num.mk false [] (zone_Zone.mk 0 false (arr (arr 0 []) [(arr 0 [0, 0, 0, 0, 0, 0, 0]), (arr 0 [0, 0, 0, 0, 0, 0, 0]), (arr 0 [0, 0, 0, 0, 0, 0, 0]), (arr 0 [0, 0, 0, 0, 0, 0, 0]), (arr 0 [0, 0, 0, 0, 0, 0, 0]), (arr 0 [0, 0, 0, 0, 0, 0, 0]), (arr 0 [0, 0, 0, 0, 0, 0, 0])]))) [] [])]) rfl sl51 rfl rfl (by kernel_rfl) (by kernel_rfl) (by kernel_rfl) rfl rfl) (oL [5] rfl (by kernel_rfl) (fl_lt (lt_build (cs := ([.pv (.bool false), .emp, .pv (.int .i64 0), .pv (.bool false)] ++ (bs (e_T40 (arr (arr 0 []) [(arr 0 [0, 0, 0, 0, 0, 0, 0]), (arr 0 [0, 0, 0, 0, 0, 0, 0]), (arr 0 [0, 0, 0, 0, 0, 0, 0]), (arr 0 [0, 0, 0, 0, 0, 0, 0]), (arr 0 [0, 0, 0, 0, 0, 0, 0]), (arr 0 [0, 0, 0, 0, 0, 0, 0]), (arr 0 [0, 0, 0, 0, 0, 0, 0])])) ++ [.emp, .emp]))) rfl st47 rfl (by kernel_rfl))) (oE tbok [5] 3 (by kernel_rfl) trivial)))))))))))))) rfl rfl ty55 rfl rfl rfl rfl rfl rfl (putE 4 (.all rfl) rfl (by decide)) (SetAt.eq (.s (.s (.s (.s (.s .z)))))) ?_
      refine d_endS (env2 := [(7, [.c (.box 5 0)])]) (wm [0, 1, 0, 0, 12, 0, 60, 0, 0, 384, 0, 1024, 0, 4096, 12288, 28672, 64512, 131071, 0, 524287]) (by kernel_rfl) (by kernel_rfl) (by kernel_rfl) (oN 20 (by kernel_rfl) trivial) (sub_cons rfl sub_nil) wT ?_
      refine then_ ?_
      refine seq_ ?_
      refine jn_ (fun (j7 : Bool) => (⟨100, 0, [(2, [.c (.pv (.bool j7))])], []⟩ : Sx)) h wT (fun o h => ?_) (fun j7 h => ?_)
      · refine drawn_ mixed ?_
        obtain ⟨v11, k15, h⟩ := bindE h
        refine dl (t := 92) 0 [.c (.pv (.bool v11))] rfl ?_
        refine dl (t := 93) 1 [.c (.pv (.bool v11))] rfl ?_
        refine (tf v11).elim (fun k16 => ?_) (fun k16 => ?_)
        · have h := iteT h k16
          refine dl (t := 94) 2 [.agg [.pv (.sl (List.map e_sl51 [[(trans_State.mk (num_Num.mk j2.1.N.None j2.2 j2.1.N.Z) j2.1.Counts j2.1.Rules), (trans_State.mk (num_Num.mk false [] (zone_Zone.mk 0 false (arr (arr 0 []) [(arr 0 [0, 0, 0, 0, 0, 0, 0]), (arr 0 [0, 0, 0, 0, 0, 0, 0]), (arr 0 [0, 0, 0, 0, 0, 0, 0]), (arr 0 [0, 0, 0, 0, 0, 0, 0]), (arr 0 [0, 0, 0, 0, 0, 0, 0]), (arr 0 [0, 0, 0, 0, 0, 0, 0]), (arr 0 [0, 0, 0, 0, 0, 0, 0])]))) [] [])], []])), .pv (.sl (List.map e_queue_Elem [(queue_Elem.mk v5 j5), (queue_Elem.mk (itv_Itv.mk 0 0) [])])), .pv (.sl (List.map e_fix_Alarm v9)), .pv (.int .i64 a0.Steps)]] rfl ?_
          obtain ⟨v13, k18, h⟩ := bindE h
          refine dl (t := 95) 3 [.c (.pv (.str v13))] rfl ?_
          refine dl (t := 96) 4 [.agg [.pv (.sl (List.map e_sl51 [[(trans_State.mk (num_Num.mk j2.1.N.None j2.2 j2.1.N.Z) j2.1.Counts j2.1.Rules), (trans_State.mk (num_Num.mk false [] (zone_Zone.mk 0 false (arr (arr 0 []) [(arr 0 [0, 0, 0, 0, 0, 0, 0]), (arr 0 [0, 0, 0, 0, 0, 0, 0]), (arr 0 [0, 0, 0, 0, 0, 0, 0]), (arr 0 [0, 0, 0, 0, 0, 0, 0]), (arr 0 [0, 0, 0, 0, 0, 0, 0]), (arr 0 [0, 0, 0, 0, 0, 0, 0]), (arr 0 [0, 0, 0, 0, 0, 0, 0])]))) [] [])], []])), .pv (.sl (List.map e_queue_Elem [(queue_Elem.mk v5 j5), (queue_Elem.mk (itv_Itv.mk 0 0) [])])), .pv (.sl (List.map e_fix_Alarm v9)), .pv (.int .i64 a0.Steps)]] rfl ?_
          obtain ⟨v15, k20, h⟩ := bindE h
          refine dl (t := 97) 5 [.c (.pv (.str v15))] rfl ?_
          refine dl (t := 98) 6 [.c (.pv (.bool (v13.toList == v15.toList)))] rfl ?_
          refine dl (t := 99) 7 [.c (.pv (.bool (v13.toList == v15.toList)))] rfl ?_
          refine dl (t := 2) 8 [.c (.pv (.bool (v13.toList == v15.toList)))] rfl ?_
          refine d_endS (env2 := [(2, [.c (.pv (.bool (v13.toList == v15.toList)))])]) (wm [0, 1, 3, 7, 3, 31, 63, 127, 255]) (by kernel_rfl) (by kernel_rfl) (by kernel_rfl) (oE tbok [] 1 (by kernel_rfl) (oL [] rfl (by kernel_rfl) (fl_lt (lt_pickT rfl rfl k16 rfl)) (owF (by kernel_rfl) (fo_l [] rfl rfl rfl (by kernel_rfl) (by kernel_rfl) (by kernel_rfl) (gi1 rfl rfl rfl (beT k16)) (fl_lt (lt_str rfl rfl rfl rfl))) (owF (by kernel_rfl) (fo_l [] rfl rfl rfl (by kernel_rfl) (by kernel_rfl) (by kernel_rfl) (gi1 rfl rfl rfl (beT k16)) (fl_call rfl Tryd.call21 rfl (by kernel_rfl) (by kernel_rfl) (l17_text_meets k20))) (owF (by kernel_rfl) (fo_l [] rfl rfl rfl (by kernel_rfl) (by kernel_rfl) (by kernel_rfl) (gi1 rfl rfl rfl (beT k16)) (fl_lt (lt_load_boxA (ys := [.pv (.sl (List.map e_sl51 [[(trans_State.mk (num_Num.mk j2.1.N.None j2.2 j2.1.N.Z) j2.1.Counts j2.1.Rules), (trans_State.mk (num_Num.mk false [] (zone_Zone.mk 0 false (arr (arr 0 []) [(arr 0 [0, 0, 0, 0, 0, 0, 0]), (arr 0 [0, 0, 0, 0, 0, 0, 0]), (arr 0 [0, 0, 0, 0, 0, 0, 0]), (arr 0 [0, 0, 0, 0, 0, 0, 0]), (arr 0 [0, 0, 0, 0, 0, 0, 0]), (arr 0 [0, 0, 0, 0, 0, 0, 0]), (arr 0 [0, 0, 0, 0, 0, 0, 0])]))) [] [])], []])), .pv (.sl (List.map e_queue_Elem [(queue_Elem.mk v5 j5), (queue_Elem.mk (itv_Itv.mk 0 0) [])])), .pv (.sl (List.map e_fix_Alarm v9)), .pv (.int .i64 a0.Steps)]) rfl ty55 rfl rfl (by kernel_rfl) (by kernel_rfl)))) (owF (by kernel_rfl) (fo_l [] rfl rfl rfl (by kernel_rfl) (by kernel_rfl) (by kernel_rfl) (gi1 rfl rfl rfl (beT k16)) (fl_call rfl Tryd.call20 rfl (by kernel_rfl) (by kernel_rfl) (report_Text_meets k18))) (owF (by kernel_rfl) (fo_l [] rfl rfl rfl (by kernel_rfl) (by kernel_rfl) (by kernel_rfl) (gi1 rfl rfl rfl (beT k16)) (fl_lt (lt_load_boxA (ys := [.pv (.sl (List.map e_sl51 [[(trans_State.mk (num_Num.mk j2.1.N.None j2.2 j2.1.N.Z) j2.1.Counts j2.1.Rules), (trans_State.mk (num_Num.mk false [] (zone_Zone.mk 0 false (arr (arr 0 []) [(arr 0 [0, 0, 0, 0, 0, 0, 0]), (arr 0 [0, 0, 0, 0, 0, 0, 0]), (arr 0 [0, 0, 0, 0, 0, 0, 0]), (arr 0 [0, 0, 0, 0, 0, 0, 0]), (arr 0 [0, 0, 0, 0, 0, 0, 0]), (arr 0 [0, 0, 0, 0, 0, 0, 0]), (arr 0 [0, 0, 0, 0, 0, 0, 0])]))) [] [])], []])), .pv (.sl (List.map e_queue_Elem [(queue_Elem.mk v5 j5), (queue_Elem.mk (itv_Itv.mk 0 0) [])])), .pv (.sl (List.map e_fix_Alarm v9)), .pv (.int .i64 a0.Steps)]) rfl ty55 rfl rfl (by kernel_rfl) (by kernel_rfl)))) (oE tbok [] 1 (by kernel_rfl) (oL [] rfl (by kernel_rfl) (fl_call rfl Tryd.call14 rfl (by kernel_rfl) (by kernel_rfl) (l17_says_meets k15)) trivial))))))))) (sub_cons rfl sub_nil) wM ?_
          obtain rfl := retE h
          refine mN ?_
          refine w_cut 0 rfl rfl rfl rfl ?_
          exact wkE (by kernel_rfl) (by kernel_rfl)
        · have h := iteF h k16
          refine ds (t := 94) 2 rfl ?_
          refine ds (t := 95) 3 rfl ?_
          refine ds (t := 96) 4 rfl ?_
          refine ds (t := 97) 5 rfl ?_
          refine ds (t := 98) 6 rfl ?_
          refine dl (t := 99) 7 [.c (.pv (.bool false))] rfl ?_
          refine dl (t := 2) 8 [.c (.pv (.bool false))] rfl ?_
          refine d_endS (env2 := [(2, [.c (.pv (.bool false))])]) (wm [0, 1, 3, 7, 3, 31, 63, 127, 255]) (by kernel_rfl) (by kernel_rfl) (by kernel_rfl) (oE tbok [] 1 (by kernel_rfl) (oL [] rfl (by kernel_rfl) (fl_lt (lt_pickF rfl rfl k16 rfl)) (owF (by kernel_rfl) (fo_s [] rfl rfl rfl (by kernel_rfl) (by kernel_rfl) (by kernel_rfl) (gi1 rfl rfl rfl (beF k16))) (owF (by kernel_rfl) (fo_s [] rfl rfl rfl (by kernel_rfl) (by kernel_rfl) (by kernel_rfl) (gi1 rfl rfl rfl (beF k16))) (owF (by kernel_rfl) (fo_s [] rfl rfl rfl (by kernel_rfl) (by kernel_rfl) (by kernel_rfl) (gi1 rfl rfl rfl (beF k16))) (owF (by kernel_rfl) (fo_s [] rfl rfl rfl (by kernel_rfl) (by kernel_rfl) (by kernel_rfl) (gi1 rfl rfl rfl (beF k16))) (owF (by kernel_rfl) (fo_s [] rfl rfl rfl (by kernel_rfl) (by kernel_rfl) (by kernel_rfl) (gi1 rfl rfl rfl (beF k16))) (oE tbok [] 1 (by kernel_rfl) (oL [] rfl (by kernel_rfl) (fl_call rfl Tryd.call14 rfl (by kernel_rfl) (by kernel_rfl) (l17_says_meets k15)) trivial))))))))) (sub_cons rfl sub_nil) wM ?_
          obtain rfl := retE h
          refine mN ?_
          refine w_cut 0 rfl rfl rfl rfl ?_
          exact wkE (by kernel_rfl) (by kernel_rfl)
      · refine then_ ?_
        refine ret_ ?_
        obtain rfl := retE h
        refine rwr (rw_ (.tmp rfl .nil) ?_)
        exact wkE (by kernel_rfl) (by kernel_rfl)
end Go.Proofs.YtjcbedgpmjgcdaaDoor.Abs
