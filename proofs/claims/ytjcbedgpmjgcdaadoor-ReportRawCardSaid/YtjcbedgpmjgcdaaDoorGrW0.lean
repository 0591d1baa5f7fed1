/- Gr: the walks. -/
import Derived.Test.YtjcbedgpmjgcdaaDoorGrD
import Derived.Test.YtjcbedgpmjgcdaaDoorGrF
namespace Go.Proofs.YtjcbedgpmjgcdaaDoor.Abs
open Go Go.RowKit
set_option linter.unusedVariables false
set_option maxRecDepth 100000
set_option maxHeartbeats 4000000
theorem join_meets {a0 : List ByteArray} {a1 r : ByteArray} (h : join a0 a1 = some r) : MeetsV Tryd.prog GG 36 [.c (.pv (.sl (List.map e_str a0))), .c (.pv (.str a1))] [.c (.pv (.str r))] := join_meets0 h
theorem r08_Bend_meets {a0 : r08_Itv} {r : r08_Itv} (h : r08_Bend a0 = some r) : MeetsV Tryd.prog GG 13 [.agg [.pv (.int .i64 a0.Lo), .pv (.int .i64 a0.Hi)]] [.agg [.pv (.int .i64 r.Lo), .pv (.int .i64 r.Hi)]] := by
  refine MeetsS.toV (meetsW_of (st0 := []) (N := 12) r_r08_Bend o_r08_Bend r Tryd.func13 rfl rfl rfl (by dsimp only [argEnv]) rfl ?_) rfl
  unfold r08_Bend at h
  refine seq_ ?_
  refine region_ ?_
  refine B rfl rfl (bir_box rfl rfl rfl) rfl rfl .z ?_
  refine B rfl rfl (bir_alloc rfl z23 rfl rfl) rfl rfl (.s .z) ?_
  refine ops_nil ?_
  refine then_ ?_
  refine seq_ ?_
  refine region_ ?_
  refine R tbok 8 [10, 6, 2] [(10, [.c (.pv (.int .i64 (IntKind.i64.wrap (IntKind.i32.wrap a0.Hi))))]), (6, [.c (.pv (.int .i64 (IntKind.i64.wrap (IntKind.i32.wrap a0.Lo))))]), (2, [.c (.box 1 0)])] (by kernel_rfl) ?_
  refine L rfl rfl (lt_build (cs := [.pv (.int .i64 (IntKind.i64.wrap (IntKind.i32.wrap a0.Lo))), .pv (.int .i64 (IntKind.i64.wrap (IntKind.i32.wrap a0.Hi)))]) rfl st23 rfl (by kernel_rfl)) rfl ?_
  refine S rfl rfl rfl ty23 (by decide) rfl rfl rfl rfl rfl (.all rfl) (.s .z) ?_
  refine ops_nil ?_
  refine then_ ?_
  refine ret_ ?_
  obtain rfl := retE h
  refine rwr (rw_ (.cellA (ys := [.pv (.int .i64 (IntKind.i64.wrap (IntKind.i32.wrap a0.Lo))), .pv (.int .i64 (IntKind.i64.wrap (IntKind.i32.wrap a0.Hi)))]) ty23 rfl rfl (by kernel_rfl) (by kernel_rfl) .nil) ?_)
  refine w_none 0 .z ?_
  refine w_none 1 (.s .z) ?_
  refine w_cut 0 rfl rfl rfl rfl ?_
  exact wkE (by kernel_rfl) (by kernel_rfl)

theorem itv_Empty_meets {a0 : itv_Itv} {r : Bool} (h : itv_Empty a0 = some r) : MeetsV Tryd.prog GG 28 [.agg [.pv (.int .i64 a0.Lo), .pv (.int .i64 a0.Hi)]] [.c (.pv (.bool r))] := by
  refine MeetsS.toV (meetsW_of (st0 := []) (N := 8) r_itv_Empty o_itv_Empty r Tryd.func28 rfl rfl rfl (by dsimp only [argEnv]) rfl ?_) rfl
  unfold itv_Empty at h
  refine seq_ ?_
  refine region_ ?_
  refine B rfl rfl (bir_box rfl rfl rfl) rfl rfl .z ?_
  refine R tbok 1 [2, 1] [(2, [.c (.pv (.bool false))]), (1, [.c (.box 0 0)])] (by kernel_rfl) ?_
  refine ops_nil ?_
  refine then_ ?_
  refine seq_ ?_
  refine region_ ?_
  refine R tbok 6 [2] [(2, [.c (.pv (.bool (decide (a0.Lo > a0.Hi))))])] (by kernel_rfl) ?_
  refine ops_nil ?_
  refine then_ ?_
  refine ret_ ?_
  obtain rfl := retE h
  refine rwr (rw_ (.tmp rfl .nil) ?_)
  refine w_none 0 .z ?_
  refine w_cut 0 rfl rfl rfl rfl ?_
  exact wkE (by kernel_rfl) (by kernel_rfl)

theorem itv_None_meets {r : itv_Itv} (h : itv_None = some r) : MeetsV Tryd.prog GG 27 [] [.agg [.pv (.int .i64 r.Lo), .pv (.int .i64 r.Hi)]] := by
  refine MeetsS.toV (meetsW_of (st0 := []) (N := 2) r_itv_None o_itv_None r Tryd.func27 rfl rfl rfl (by dsimp only [argEnv]) rfl ?_) rfl
  unfold itv_None at h
  refine seq_ ?_
  refine region_ ?_
  refine B rfl rfl (bir_alloc rfl z29 rfl rfl) rfl rfl .z ?_
  refine ops_nil ?_
  refine then_ ?_
  refine seq_ ?_
  refine region_ ?_
  refine L rfl rfl (lt_build (cs := [.pv (.int .i64 1), .pv (.int .i64 0)]) rfl st29 rfl (by kernel_rfl)) rfl ?_
  refine S rfl rfl rfl ty29 (by decide) rfl rfl rfl rfl rfl (.all rfl) .z ?_
  refine ops_nil ?_
  refine then_ ?_
  refine ret_ ?_
  obtain rfl := retE h
  refine rwr (rw_ (.cellA (ys := [.pv (.int .i64 1), .pv (.int .i64 0)]) ty29 rfl rfl (by kernel_rfl) (by kernel_rfl) .nil) ?_)
  refine w_none 0 .z ?_
  refine w_cut 0 rfl rfl rfl rfl ?_
  exact wkE (by kernel_rfl) (by kernel_rfl)

theorem itv_norm_meets {a0 : itv_Itv} {r : itv_Itv} (h : itv_norm a0 = some r) : MeetsV Tryd.prog GG 32 [.agg [.pv (.int .i64 a0.Lo), .pv (.int .i64 a0.Hi)]] [.agg [.pv (.int .i64 r.Lo), .pv (.int .i64 r.Hi)]] := by
  refine MeetsS.toV (meetsW_of (st0 := []) (N := 7) r_itv_norm o_itv_norm r Tryd.func32 rfl rfl rfl (by dsimp only [argEnv]) rfl ?_) rfl
  unfold itv_norm at h
  refine seq_ ?_
  refine region_ ?_
  refine B rfl rfl (bir_box rfl rfl rfl) rfl rfl .z ?_
  refine B rfl rfl (bir_alloc rfl z29 rfl rfl) rfl rfl (.s .z) ?_
  refine ops_nil ?_
  refine then_ ?_
  refine seq_ ?_
  refine seq_ ?_
  refine region_ ?_
  refine R tbok 1 [3, 2, 1] [(3, [.agg [.pv (.int .i64 a0.Lo), .pv (.int .i64 a0.Hi)]]), (2, [.c (.box 1 0)]), (1, [.c (.box 0 0)])] (by kernel_rfl) ?_
  obtain ⟨v1, k1, h⟩ := bindE h
  refine C rfl rfl (fl_call rfl Tryd.call28 rfl (by kernel_rfl) (by kernel_rfl) (itv_Empty_meets k1)) rfl ?_
  refine ops_nil ?_
  refine then_ ?_
  refine cond_ (b := v1) rfl (fun k2 => ?_) (fun k2 => ?_)
  · have h := iteT h k2
    refine seq_ ?_
    refine region_ ?_
    obtain ⟨v2, k3, h⟩ := bindE h
    refine C rfl rfl (fl_call rfl Tryd.call27 rfl (by kernel_rfl) (by kernel_rfl) (itv_None_meets k3)) rfl ?_
    refine S rfl rfl rfl ty29 (by decide) rfl rfl rfl rfl rfl (.all rfl) (.s .z) ?_
    refine ops_nil ?_
    refine then_ ?_
    refine ret_ ?_
    obtain rfl := retE h
    refine tR (rwr (rw_ (.cellA (ys := [.pv (.int .i64 v2.Lo), .pv (.int .i64 v2.Hi)]) ty29 rfl rfl (by kernel_rfl) (by kernel_rfl) .nil) ?_))
    refine w_none 0 .z ?_
    refine w_none 1 (.s .z) ?_
    refine w_cut 0 rfl rfl rfl rfl ?_
    exact wkE (by kernel_rfl) (by kernel_rfl)
  · have h := iteF h k2
    refine skip_ ?_
    refine then_ ?_
    refine seq_ ?_
    refine region_ ?_
    refine R tbok 1 [6, 2] [(6, [.agg [.pv (.int .i64 a0.Lo), .pv (.int .i64 a0.Hi)]]), (2, [.c (.box 1 0)])] (by kernel_rfl) ?_
    refine S rfl rfl rfl ty29 (by decide) rfl rfl rfl rfl rfl (.all rfl) (.s .z) ?_
    refine ops_nil ?_
    refine then_ ?_
    refine ret_ ?_
    obtain rfl := retE h
    refine rwr (rw_ (.cellA (ys := [.pv (.int .i64 a0.Lo), .pv (.int .i64 a0.Hi)]) ty29 rfl rfl (by kernel_rfl) (by kernel_rfl) .nil) ?_)
    refine w_none 0 .z ?_
    refine w_none 1 (.s .z) ?_
    refine w_cut 0 rfl rfl rfl rfl ?_
    exact wkE (by kernel_rfl) (by kernel_rfl)

theorem itv_Of_meets {a0 : Int} {a1 : Int} {r : itv_Itv} (h : itv_Of a0 a1 = some r) : MeetsV Tryd.prog GG 19 [.c (.pv (.int .i64 a0)), .c (.pv (.int .i64 a1))] [.agg [.pv (.int .i64 r.Lo), .pv (.int .i64 r.Hi)]] := by
  refine MeetsS.toV (meetsW_of (st0 := []) (N := 11) r_itv_Of o_itv_Of r Tryd.func19 rfl rfl rfl (by dsimp only [argEnv]) rfl ?_) rfl
  unfold itv_Of at h
  refine seq_ ?_
  refine region_ ?_
  refine B rfl rfl (bir_alloc rfl z29 rfl rfl) rfl rfl .z ?_
  refine ops_nil ?_
  refine then_ ?_
  refine seq_ ?_
  refine region_ ?_
  refine R tbok 1 [5, 4, 1] [(5, [.c (.pv (.int .i64 a0))]), (4, [.c (.box 0 0)]), (1, [.c (.pv (.int .i64 a1))])] (by kernel_rfl) ?_
  refine L rfl rfl (lt_max2 rfl rfl rfl) rfl ?_
  refine R tbok 1 [7, 6, 4] [(7, [.c (.pv (.int .i64 a1))]), (6, [.c (.pv (.int .i64 (max a0 (-2147483648))))]), (4, [.c (.box 0 0)])] (by kernel_rfl) ?_
  refine L rfl rfl (lt_min2 rfl rfl rfl) rfl ?_
  refine L rfl rfl (lt_build (cs := [.pv (.int .i64 (max a0 (-2147483648))), .pv (.int .i64 (min a1 2147483647))]) rfl st29 rfl (by kernel_rfl)) rfl ?_
  obtain ⟨v1, k1, h⟩ := bindE h
  refine C rfl rfl (fl_call rfl Tryd.call32 rfl (by kernel_rfl) (by kernel_rfl) (itv_norm_meets k1)) rfl ?_
  refine S rfl rfl rfl ty29 (by decide) rfl rfl rfl rfl rfl (.all rfl) .z ?_
  refine ops_nil ?_
  refine then_ ?_
  refine ret_ ?_
  obtain rfl := retE h
  refine rwr (rw_ (.cellA (ys := [.pv (.int .i64 v1.Lo), .pv (.int .i64 v1.Hi)]) ty29 rfl rfl (by kernel_rfl) (by kernel_rfl) .nil) ?_)
  refine w_none 0 .z ?_
  refine w_cut 0 rfl rfl rfl rfl ?_
  exact wkE (by kernel_rfl) (by kernel_rfl)

theorem itv_All_meets {r : itv_Itv} (h : itv_All = some r) : MeetsV Tryd.prog GG 30 [] [.agg [.pv (.int .i64 r.Lo), .pv (.int .i64 r.Hi)]] := by
  refine MeetsS.toV (meetsW_of (st0 := []) (N := 2) r_itv_All o_itv_All r Tryd.func30 rfl rfl rfl (by dsimp only [argEnv]) rfl ?_) rfl
  unfold itv_All at h
  refine seq_ ?_
  refine region_ ?_
  refine B rfl rfl (bir_alloc rfl z29 rfl rfl) rfl rfl .z ?_
  refine ops_nil ?_
  refine then_ ?_
  refine seq_ ?_
  refine region_ ?_
  refine L rfl rfl (lt_build (cs := [.pv (.int .i64 (-2147483648)), .pv (.int .i64 2147483647)]) rfl st29 rfl (by kernel_rfl)) rfl ?_
  refine S rfl rfl rfl ty29 (by decide) rfl rfl rfl rfl rfl (.all rfl) .z ?_
  refine ops_nil ?_
  refine then_ ?_
  refine ret_ ?_
  obtain rfl := retE h
  refine rwr (rw_ (.cellA (ys := [.pv (.int .i64 (-2147483648)), .pv (.int .i64 2147483647)]) ty29 rfl rfl (by kernel_rfl) (by kernel_rfl) .nil) ?_)
  refine w_none 0 .z ?_
  refine w_cut 0 rfl rfl rfl rfl ?_
  exact wkE (by kernel_rfl) (by kernel_rfl)

theorem report_Itv_meets {a0 : itv_Itv} {r : ByteArray} (h : report_Itv a0 = some r) : MeetsV Tryd.prog GG 15 [.agg [.pv (.int .i64 a0.Lo), .pv (.int .i64 a0.Hi)]] [.c (.pv (.str r))] := by
  refine MeetsS.toV (meetsW_of (st0 := []) (N := 27) r_report_Itv o_report_Itv r Tryd.func15 rfl rfl rfl (by dsimp only [argEnv]) rfl ?_) rfl
  unfold report_Itv at h
  refine seq_ ?_
  refine region_ ?_
  refine B rfl rfl (bir_box rfl rfl rfl) rfl rfl .z ?_
  refine R tbok 1 [2, 1] [(2, [.c (.pv (.str (ByteArray.mk #[])))]), (1, [.c (.box 0 0)])] (by kernel_rfl) ?_
  refine ops_nil ?_
  refine then_ ?_
  refine seq_ ?_
  refine block_ ?_
  refine seq_ ?_
  refine region_ ?_
  refine R tbok 1 [4, 2, 1] [(4, [.agg [.pv (.int .i64 a0.Lo), .pv (.int .i64 a0.Hi)]]), (2, [.c (.pv (.str (ByteArray.mk #[])))]), (1, [.c (.box 0 0)])] (by kernel_rfl) ?_
  obtain ⟨v1, k1, h⟩ := bindE h
  refine C rfl rfl (fl_call rfl Tryd.call28 rfl (by kernel_rfl) (by kernel_rfl) (itv_Empty_meets k1)) rfl ?_
  refine R tbok 1 [3, 2, 1] [(3, [.c (.pv (.bool v1))]), (2, [.c (.pv (.str (ByteArray.mk #[])))]), (1, [.c (.box 0 0)])] (by kernel_rfl) ?_
  refine ops_nil ?_
  refine then_ ?_
  refine cond_ (b := v1) rfl (fun k2 => ?_) (fun k2 => ?_)
  · have h := iteT h k2
    refine seq_ ?_
    refine region_ ?_
    refine R tbok 1 [2, 1] [(2, [.c (.pv (.str (ByteArray.mk #[110, 111, 110, 101])))]), (1, [.c (.box 0 0)])] (by kernel_rfl) ?_
    refine ops_nil ?_
    refine then_ ?_
    refine ret_ ?_
    obtain rfl := retE h
    refine bR (tR (rwr (rw_ (.tmp rfl .nil) ?_)))
    refine w_none 0 .z ?_
    refine w_cut 0 rfl rfl rfl rfl ?_
    exact wkE (by kernel_rfl) (by kernel_rfl)
  · have h := iteF h k2
    refine seq_ ?_
    refine region_ ?_
    refine R tbok 6 [6, 2, 1] [(6, [.c (.pv (.bool (a0.Lo == a0.Hi)))]), (2, [.c (.pv (.str (ByteArray.mk #[])))]), (1, [.c (.box 0 0)])] (by kernel_rfl) ?_
    refine ops_nil ?_
    refine then_ ?_
    refine cond_ (b := (a0.Lo == a0.Hi)) rfl (fun k3 => ?_) (fun k3 => ?_)
    · have h := iteT h k3
      refine seq_ ?_
      refine region_ ?_
      refine R tbok 2 [13, 2, 1] [(13, [.c (.pv (.int .i64 a0.Lo))]), (2, [.c (.pv (.str (ByteArray.mk #[])))]), (1, [.c (.box 0 0)])] (by kernel_rfl) ?_
      obtain ⟨v2, k4, h⟩ := bindE h
      refine C rfl rfl (fl_call rfl Tryd.call29 rfl (by kernel_rfl) (by kernel_rfl) (itoa_meets k4)) rfl ?_
      refine R tbok 1 [2, 1] [(2, [.c (.pv (.str v2))]), (1, [.c (.box 0 0)])] (by kernel_rfl) ?_
      refine ops_nil ?_
      refine then_ ?_
      refine ret_ ?_
      obtain rfl := retE h
      refine bR (tR (rwr (rw_ (.tmp rfl .nil) ?_)))
      refine w_none 0 .z ?_
      refine w_cut 0 rfl rfl rfl rfl ?_
      exact wkE (by kernel_rfl) (by kernel_rfl)
    · have h := iteF h k3
      refine seq_ ?_
      refine drawn_ mixed ?_
      refine dl (t := 16) 0 [.agg [.pv (.int .i64 a0.Lo), .pv (.int .i64 a0.Hi)]] rfl ?_
      obtain ⟨v4, k6, h⟩ := bindE h
      refine dl (t := 17) 1 [.agg [.pv (.int .i64 v4.Lo), .pv (.int .i64 v4.Hi)]] rfl ?_
      refine dl (t := 18) 2 [.c (.pv (.bool ((a0.Lo : Int) == v4.Lo && ((a0.Hi : Int) == v4.Hi && true))))] rfl ?_
      refine dl (t := 15) 3 [.c (.pv (.bool ((a0.Lo : Int) == v4.Lo && ((a0.Hi : Int) == v4.Hi && true))))] rfl ?_
      refine d_endS (env2 := [(15, [.c (.pv (.bool ((a0.Lo : Int) == v4.Lo && ((a0.Hi : Int) == v4.Hi && true))))]), (2, [.c (.pv (.str (ByteArray.mk #[])))]), (1, [.c (.box 0 0)])]) (wm [0, 0, 3, 7]) (by kernel_rfl) (by kernel_rfl) (by kernel_rfl) (oE tbok [] 1 (by kernel_rfl) (oL [] rfl (by kernel_rfl) (fl_lt (lt_eqStruct (r := ((a0.Lo : Int) == v4.Lo && ((a0.Hi : Int) == v4.Hi && true))) rfl u29 sp29 eg29 rfl rfl (by kernel_rfl) (.inl ⟨rfl, rfl⟩))) (oL [] rfl (by kernel_rfl) (fl_call rfl Tryd.call30 rfl (by kernel_rfl) (by kernel_rfl) (itv_All_meets k6)) (oE tbok [] 1 (by kernel_rfl) trivial)))) (sub_cons rfl (sub_cons rfl (sub_cons rfl sub_nil))) wT ?_
      refine then_ ?_
      refine cond_ (b := ((a0.Lo : Int) == v4.Lo && ((a0.Hi : Int) == v4.Hi && true))) rfl (fun k7 => ?_) (fun k7 => ?_)
      · have h := iteT h k7
        refine seq_ ?_
        refine region_ ?_
        refine R tbok 1 [2, 1] [(2, [.c (.pv (.str (ByteArray.mk #[97, 110, 121])))]), (1, [.c (.box 0 0)])] (by kernel_rfl) ?_
        refine ops_nil ?_
        refine then_ ?_
        refine ret_ ?_
        obtain rfl := retE h
        refine bR (tR (rwr (rw_ (.tmp rfl .nil) ?_)))
        refine w_none 0 .z ?_
        refine w_cut 0 rfl rfl rfl rfl ?_
        exact wkE (by kernel_rfl) (by kernel_rfl)
      · have h := iteF h k7
        refine skip_ ?_
        refine bN ?_
        refine then_ ?_
        refine seq_ ?_
        refine drawn_ mixed ?_
        refine dl (t := 19) 0 [.c (.box 0 0)] rfl ?_
        refine dl (t := 20) 1 [.c (.pv (.int .i64 a0.Lo))] rfl ?_
        obtain ⟨v6, k9, h⟩ := bindE h
        refine dl (t := 21) 2 [.c (.pv (.str v6))] rfl ?_
        obtain ⟨v7, k10, h⟩ := bindE h
        refine dl (t := 22) 3 [.c (.pv (.str v7))] rfl ?_
        refine dl (t := 23) 4 [.c (.box 0 1)] rfl ?_
        refine dl (t := 24) 5 [.c (.pv (.int .i64 a0.Hi))] rfl ?_
        obtain ⟨v9, k12, h⟩ := bindE h
        refine dl (t := 25) 6 [.c (.pv (.str v9))] rfl ?_
        obtain ⟨v10, k13, h⟩ := bindE h
        refine dl (t := 26) 7 [.c (.pv (.str v10))] rfl ?_
        refine dl (t := 2) 8 [.c (.pv (.str v10))] rfl ?_
        refine d_endS (env2 := [(2, [.c (.pv (.str v10))])]) (wm [0, 1, 3, 7, 0, 16, 55, 127, 255]) (by kernel_rfl) (by kernel_rfl) (by kernel_rfl) (oE tbok [] 1 (by kernel_rfl) (oL [] rfl (by kernel_rfl) (fl_lt (cat_ rfl rfl rfl k13)) (oL [] rfl (by kernel_rfl) (fl_call rfl Tryd.call29 rfl (by kernel_rfl) (by kernel_rfl) (itoa_meets k12)) (oE tbok [] 2 (by kernel_rfl) (oL [] rfl (by kernel_rfl) (fl_lt (cat_ rfl rfl rfl k10)) (oL [] rfl (by kernel_rfl) (fl_call rfl Tryd.call29 rfl (by kernel_rfl) (by kernel_rfl) (itoa_meets k9)) (oE tbok [] 2 (by kernel_rfl) trivial))))))) (sub_cons rfl sub_nil) wT ?_
        refine then_ ?_
        refine ret_ ?_
        obtain rfl := retE h
        refine rwr (rw_ (.tmp rfl .nil) ?_)
        refine w_none 0 .z ?_
        refine w_cut 0 rfl rfl rfl rfl ?_
        exact wkE (by kernel_rfl) (by kernel_rfl)

theorem report_Alarm_meets {a0 : fix_Alarm} {r : ByteArray} (h : report_Alarm a0 = some r) : MeetsV Tryd.prog GG 17 [.agg [.pv (.int .i64 a0.Proc), .pv (.int .i64 a0.Edge), .pv (.int .i64 a0.Kind)]] [.c (.pv (.str r))] := by
  refine MeetsS.toV (meetsW_of (st0 := []) (N := 25) r_report_Alarm o_report_Alarm r Tryd.func17 rfl rfl rfl (by dsimp only [argEnv]) rfl ?_) rfl
  unfold report_Alarm at h
  refine seq_ ?_
  refine region_ ?_
  refine B rfl rfl (bir_box rfl rfl rfl) rfl rfl .z ?_
  refine R tbok 1 [2, 1] [(2, [.c (.pv (.str (ByteArray.mk #[])))]), (1, [.c (.box 0 0)])] (by kernel_rfl) ?_
  refine ops_nil ?_
  refine then_ ?_
  refine seq_ ?_
  refine region_ ?_
  refine R tbok 3 [3, 2, 1] [(3, [.c (.pv (.int .i64 a0.Kind))]), (2, [.c (.pv (.str (ByteArray.mk #[])))]), (1, [.c (.box 0 0)])] (by kernel_rfl) ?_
  refine ops_nil ?_
  refine then_ ?_
  refine seq_ ?_
  refine jn_ (fun (j1 : Int) => (⟨25, 0, [(1, [.c (.box 0 0)]), (3, [.c (.pv (.int .i64 j1))])], [some (.box true 25 [.pv (.int .i64 a0.Proc), .pv (.int .i64 a0.Edge), .pv (.int .i64 a0.Kind)])]⟩ : Sx)) h wT (fun o h => ?_) (fun j1 h => ?_)
  · refine seq_ ?_
    refine jn_ (fun (j2 : Bool) => (⟨25, 0, [(1, [.c (.box 0 0)]), (3, [.c (.pv (.int .i64 a0.Kind))]), (11, [.c (.pv (.bool j2))])], [some (.box true 25 [.pv (.int .i64 a0.Proc), .pv (.int .i64 a0.Edge), .pv (.int .i64 a0.Kind)])]⟩ : Sx)) h wT (fun o h => ?_) (fun j2 h => ?_)
    · refine region_ ?_
      refine R tbok 3 [8, 3, 1] [(8, [.c (.pv (.bool (decide (a0.Kind < 0))))]), (3, [.c (.pv (.int .i64 a0.Kind))]), (1, [.c (.box 0 0)])] (by kernel_rfl) ?_
      refine (tf (decide (a0.Kind < 0))).elim (fun k1 => ?_) (fun k1 => ?_)
      · have h := iteT h k1
        refine Ls0 rfl rfl rfl k1 rfl rfl ?_
        refine Ls0 rfl rfl rfl k1 rfl rfl ?_
        refine L rfl rfl (lt_pickT rfl rfl k1 rfl) rfl ?_
        refine ops_nil ?_
        obtain rfl := retE h
        refine mN ?_
        refine w_sub (env' := [(1, [.c (.box 0 0)]), (3, [.c (.pv (.int .i64 a0.Kind))]), (11, [.c (.pv (.bool true))])]) (sub_cons rfl (sub_cons rfl (sub_cons rfl sub_nil))) ?_
        exact wkE (by kernel_rfl) (by kernel_rfl)
      · have h := iteF h k1
        refine Lg rfl rfl rfl k1 rfl (lt_move rfl rfl) rfl ?_
        refine Lg rfl rfl rfl k1 rfl (lt_int rfl rfl rfl rfl) rfl ?_
        refine L rfl rfl (lt_pickF rfl rfl k1 rfl) rfl ?_
        refine ops_nil ?_
        obtain rfl := retE h
        refine mN ?_
        refine w_sub (env' := [(1, [.c (.box 0 0)]), (3, [.c (.pv (.int .i64 a0.Kind))]), (11, [.c (.pv (.bool (decide (a0.Kind ≥ 7))))])]) (sub_cons rfl (sub_cons rfl (sub_cons rfl sub_nil))) ?_
        exact wkE (by kernel_rfl) (by kernel_rfl)
    · refine then_ ?_
      refine cond_ (b := j2) rfl (fun k2 => ?_) (fun k2 => ?_)
      · have h := iteT h k2
        refine region_ ?_
        refine R tbok 1 [3, 1] [(3, [.c (.pv (.int .i64 0))]), (1, [.c (.box 0 0)])] (by kernel_rfl) ?_
        refine ops_nil ?_
        obtain rfl := retE h
        refine mN ?_
        refine w_sub (env' := [(1, [.c (.box 0 0)]), (3, [.c (.pv (.int .i64 0))])]) (sub_cons rfl (sub_cons rfl sub_nil)) ?_
        exact wkE (by kernel_rfl) (by kernel_rfl)
      · have h := iteF h k2
        refine skip_ ?_
        obtain rfl := retE h
        refine mN ?_
        refine w_sub (env' := [(1, [.c (.box 0 0)]), (3, [.c (.pv (.int .i64 a0.Kind))])]) (sub_cons rfl (sub_cons rfl sub_nil)) ?_
        exact wkE (by kernel_rfl) (by kernel_rfl)
  · refine then_ ?_
    refine seq_ ?_
    refine drawn_ mixed ?_
    refine dl (t := 12) 0 [.c (.pv (.int .i64 j1))] rfl ?_
    obtain ⟨v1, k3, h⟩ := bindE h
    refine dl (t := 13) 1 [.c (.ep [.str v1])] rfl ?_
    refine dl (t := 14) 2 [.c (.pv (.str v1))] rfl ?_
    obtain ⟨v2, k4, h⟩ := bindE h
    refine dl (t := 15) 3 [.c (.pv (.str v2))] rfl ?_
    refine dl (t := 16) 4 [.c (.box 0 0)] rfl ?_
    refine dl (t := 17) 5 [.c (.pv (.int .i64 a0.Proc))] rfl ?_
    obtain ⟨v4, k6, h⟩ := bindE h
    refine dl (t := 18) 6 [.c (.pv (.str v4))] rfl ?_
    obtain ⟨v5, k7, h⟩ := bindE h
    refine dl (t := 19) 7 [.c (.pv (.str v5))] rfl ?_
    obtain ⟨v6, k8, h⟩ := bindE h
    refine dl (t := 20) 8 [.c (.pv (.str v6))] rfl ?_
    refine dl (t := 21) 9 [.c (.box 0 1)] rfl ?_
    refine dl (t := 22) 10 [.c (.pv (.int .i64 a0.Edge))] rfl ?_
    obtain ⟨v8, k10, h⟩ := bindE h
    refine dl (t := 23) 11 [.c (.pv (.str v8))] rfl ?_
    obtain ⟨v9, k11, h⟩ := bindE h
    refine dl (t := 24) 12 [.c (.pv (.str v9))] rfl ?_
    refine dl (t := 2) 13 [.c (.pv (.str v9))] rfl ?_
    refine d_endS (env2 := [(2, [.c (.pv (.str v9))])]) (wm [0, 1, 3, 7, 0, 16, 48, 127, 255, 0, 512, 1648, 4095, 8191]) (by kernel_rfl) (by kernel_rfl) (by kernel_rfl) (oE tbok [] 1 (by kernel_rfl) (oL [] rfl (by kernel_rfl) (fl_lt (cat_ rfl rfl rfl k11)) (oL [] rfl (by kernel_rfl) (fl_call rfl Tryd.call29 rfl (by kernel_rfl) (by kernel_rfl) (itoa_meets k10)) (oE tbok [] 2 (by kernel_rfl) (oL [] rfl (by kernel_rfl) (fl_lt (cat_ rfl rfl rfl k8)) (oL [] rfl (by kernel_rfl) (fl_lt (cat_ rfl rfl rfl k7)) (oL [] rfl (by kernel_rfl) (fl_call rfl Tryd.call29 rfl (by kernel_rfl) (by kernel_rfl) (itoa_meets k6)) (oE tbok [] 2 (by kernel_rfl) (oL [] rfl (by kernel_rfl) (fl_lt (cat_ rfl rfl rfl k4)) (oE tbok [] 1 (by kernel_rfl) (oL [] rfl (by kernel_rfl) (fl_lt (ia_epL (e := e_str) [(ByteArray.mk #[101, 114, 114, 111, 114]), (ByteArray.mk #[102, 97, 105, 108, 101, 100, 32, 97, 115, 115, 101, 114, 116, 105, 111, 110]), (ByteArray.mk #[111, 118, 101, 114, 102, 108, 111, 119]), (ByteArray.mk #[100, 105, 118, 105, 115, 105, 111, 110, 32, 98, 121, 32, 122, 101, 114, 111]), (ByteArray.mk #[102, 117, 108, 108, 32, 99, 104, 97, 110, 110, 101, 108]), (ByteArray.mk #[119, 114, 111, 110, 103, 32, 116, 97, 103]), (ByteArray.mk #[98, 114, 111, 107, 101, 110, 32, 114, 117, 108, 101])] rfl u82 ty9 rfl rfl rfl rfl (fun _ => rfl) k3)) (oE tbok [] 1 (by kernel_rfl) trivial)))))))))))) (sub_cons rfl sub_nil) wT ?_
    refine then_ ?_
    refine ret_ ?_
    obtain rfl := retE h
    refine rwr (rw_ (.tmp rfl .nil) ?_)
    refine w_none 0 .z ?_
    refine w_cut 0 rfl rfl rfl rfl ?_
    exact wkE (by kernel_rfl) (by kernel_rfl)

theorem trans_Empty_meets {a0 : trans_State} {r : Bool} (h : trans_Empty a0 = some r) : MeetsV Tryd.prog GG 44 [.agg (bs (e_trans_State a0))] [.c (.pv (.bool r))] := by
  refine MeetsS.toV (meetsW_of (st0 := []) (N := 6) r_trans_Empty o_trans_Empty r Tryd.func44 rfl rfl rfl (by dsimp only [argEnv]) rfl ?_) rfl
  unfold trans_Empty at h
  refine seq_ ?_
  refine region_ ?_
  refine B rfl rfl (bir_box rfl rfl rfl) rfl rfl .z ?_
  refine R tbok 1 [2, 1] [(2, [.c (.pv (.bool false))]), (1, [.c (.box 0 0)])] (by kernel_rfl) ?_
  refine ops_nil ?_
  refine then_ ?_
  refine seq_ ?_
  refine region_ ?_
  refine R tbok 4 [2] [(2, [.c (.pv (.bool a0.N.None))])] (by kernel_rfl) ?_
  refine ops_nil ?_
  refine then_ ?_
  refine ret_ ?_
  obtain rfl := retE h
  refine rwr (rw_ (.tmp rfl .nil) ?_)
  refine w_none 0 .z ?_
  refine w_cut 0 rfl rfl rfl rfl ?_
  exact wkE (by kernel_rfl) (by kernel_rfl)

theorem report_state_meets {a0 : trans_State} {r : ByteArray} (h : report_state a0 = some r) : MeetsV Tryd.prog GG 33 [.agg (bs (e_trans_State a0))] [.c (.pv (.str r))] := by
  refine MeetsS.toV (meetsW_of (st0 := []) (N := 27) r_report_state o_report_state r Tryd.func33 rfl rfl rfl (by dsimp only [argEnv]) rfl ?_) rfl
  unfold report_state at h
  refine seq_ ?_
  refine region_ ?_
  refine B rfl rfl (bir_box rfl rfl rfl) rfl rfl .z ?_
  refine R tbok 1 [2, 1] [(2, [.c (.pv (.str (ByteArray.mk #[])))]), (1, [.c (.box 0 0)])] (by kernel_rfl) ?_
  refine ops_nil ?_
  refine then_ ?_
  refine seq_ ?_
  refine seq_ ?_
  refine region_ ?_
  refine R tbok 1 [6, 2, 1] [(6, [.agg (bs (e_trans_State a0))]), (2, [.c (.pv (.str (ByteArray.mk #[])))]), (1, [.c (.box 0 0)])] (by kernel_rfl) ?_
  obtain ⟨v1, k1, h⟩ := bindE h
  refine C rfl rfl (fl_call rfl Tryd.call44 rfl (by kernel_rfl) (by kernel_rfl) (trans_Empty_meets k1)) rfl ?_
  refine ops_nil ?_
  refine then_ ?_
  refine cond_ (b := v1) rfl (fun k2 => ?_) (fun k2 => ?_)
  · have h := iteT h k2
    refine seq_ ?_
    refine region_ ?_
    refine R tbok 1 [2, 1] [(2, [.c (.pv (.str (ByteArray.mk #[110, 101, 118, 101, 114])))]), (1, [.c (.box 0 0)])] (by kernel_rfl) ?_
    refine ops_nil ?_
    refine then_ ?_
    refine ret_ ?_
    obtain rfl := retE h
    refine tR (rwr (rw_ (.tmp rfl .nil) ?_))
    refine w_none 0 .z ?_
    refine w_cut 0 rfl rfl rfl rfl ?_
    exact wkE (by kernel_rfl) (by kernel_rfl)
  · have h := iteF h k2
    refine skip_ ?_
    refine then_ ?_
    refine seq_ ?_
    refine region_ ?_
    refine R tbok 1 [3, 2, 1] [(3, [.c (.emp)]), (2, [.c (.pv (.str (ByteArray.mk #[])))]), (1, [.c (.box 0 0)])] (by kernel_rfl) ?_
    refine ops_nil ?_
    refine then_ ?_
    refine seq_ ?_
    refine seq_ ?_
    refine region_ ?_
    refine R tbok 3 [10, 3, 2] [(10, [.c (.pv (.sl (List.map e_itv_Itv a0.N.I)))]), (3, [.c (.emp)]), (2, [.c (.pv (.str (ByteArray.mk #[])))])] (by kernel_rfl) ?_
    refine L rfl rfl (len_sl (e := e_itv_Itv) rfl u38 rfl) rfl ?_
    refine R tbok 1 [12, 11, 10, 3, 2] [(12, [.c (.pv (.int .i64 0))]), (11, [.c (.pv (.int .i64 (a0.N.I.length : Int)))]), (10, [.c (.pv (.sl (List.map e_itv_Itv a0.N.I)))]), (3, [.c (.emp)]), (2, [.c (.pv (.str (ByteArray.mk #[])))])] (by kernel_rfl) ?_
    refine ops_nil ?_
    refine then_ ?_
    refine CodeT.weak (w_lift 3 9 1 rfl (.s .z) (Weak.refl _)) ?_
    refine lp_ (Qr := RW Tryd.prog GG Tryd.f33 0 r_report_state o_report_state) (report_state_l2 a0) (fun (x2 : (Int × (List ByteArray))) => (⟨27, 0, [(3, [.c (.row 1)]), (10, [.c (.pv (.sl (List.map e_itv_Itv a0.N.I)))]), (11, [.c (.pv (.int .i64 (a0.N.I.length : Int)))]), (12, [.c (.pv (.int .i64 x2.1))])], [none, some (.row true true 9 1 (List.map e_str x2.2))]⟩ : Sx)) (fun (j2 : (List ByteArray)) => (⟨27, 0, [(3, [.c (.row 1)])], [none, some (.row true true 9 1 (List.map e_str j2))]⟩ : Sx)) (0, []) RW.only h wT ?_ (fun x2 o h => ?_) (fun r h s' hs => ?_) (fun j2 h => ?_)
    · refine w_sub (env' := [(3, [.c (.row 1)]), (10, [.c (.pv (.sl (List.map e_itv_Itv a0.N.I)))]), (11, [.c (.pv (.int .i64 (a0.N.I.length : Int)))]), (12, [.c (.pv (.int .i64 0))])]) (sub_cons rfl (sub_cons rfl (sub_cons rfl (sub_cons rfl sub_nil)))) ?_
      refine w_none 0 .z ?_
      refine w_ch 1 rfl (.s .z) ?_
      exact wkE (by kernel_rfl) (by kernel_rfl)
    · unfold report_state_l2 at h
      refine seq_ ?_
      refine region_ ?_
      refine R tbok 1 [13, 3, 10, 11, 12] [(13, [.c (.pv (.bool (decide (x2.1 < (a0.N.I.length : Int)))))]), (3, [.c (.row 1)]), (10, [.c (.pv (.sl (List.map e_itv_Itv a0.N.I)))]), (11, [.c (.pv (.int .i64 (a0.N.I.length : Int)))]), (12, [.c (.pv (.int .i64 x2.1))])] (by kernel_rfl) ?_
      refine ops_nil ?_
      refine then_ ?_
      refine seq_ ?_
      refine cond_ (b := (decide (x2.1 < (a0.N.I.length : Int)))) rfl (fun k3 => ?_) (fun k3 => ?_)
      · have h := iteT h k3
        refine skip_ ?_
        refine then_ ?_
        refine seq_ ?_
        refine block_ ?_
        refine seq_ ?_
        refine region_ ?_
        obtain ⟨v2, k4, h⟩ := bindE h
        refine L rfl rfl (ia_sl (e := e_itv_Itv) (y := v2) rfl u38 ty29 rfl rfl k4 rfl) rfl ?_
        refine R tbok 1 [15, 3, 10, 11, 12] [(15, [.agg [.pv (.int .i64 v2.Lo), .pv (.int .i64 v2.Hi)]]), (3, [.c (.row 1)]), (10, [.c (.pv (.sl (List.map e_itv_Itv a0.N.I)))]), (11, [.c (.pv (.int .i64 (a0.N.I.length : Int)))]), (12, [.c (.pv (.int .i64 x2.1))])] (by kernel_rfl) ?_
        refine B rfl rfl (bir_alloc rfl z29 rfl rfl) rfl rfl (.s (.s .z)) ?_
        refine S rfl rfl rfl ty29 (by decide) rfl rfl rfl rfl rfl (.all rfl) (.s (.s .z)) ?_
        refine ops_nil ?_
        refine then_ ?_
        refine region_ ?_
        refine R tbok 2 [17, 16, 3, 10, 11, 12] [(17, [.agg [.pv (.int .i64 v2.Lo), .pv (.int .i64 v2.Hi)]]), (16, [.c (.row 1)]), (3, [.c (.row 1)]), (10, [.c (.pv (.sl (List.map e_itv_Itv a0.N.I)))]), (11, [.c (.pv (.int .i64 (a0.N.I.length : Int)))]), (12, [.c (.pv (.int .i64 x2.1))])] (by kernel_rfl) ?_
        obtain ⟨v3, k5, h⟩ := bindE h
        refine C rfl rfl (fl_call rfl Tryd.call15 rfl (by kernel_rfl) (by kernel_rfl) (report_Itv_meets k5)) rfl ?_
        refine C rfl rfl (fl_slice (List.map e_str [v3]) rfl sl70 rfl rfl rfl rfl rfl rfl rfl) rfl ?_
        obtain ⟨v4, k6, h⟩ := bindE h
        refine app_ (e := e_str) (M := [v3]) (env' := [(19, [.c (.pv (.sl (List.map e_str [v3])))]), (18, [.c (.pv (.str v3))]), (17, [.agg [.pv (.int .i64 v2.Lo), .pv (.int .i64 v2.Hi)]]), (16, [.c (.any)]), (3, [.c (.any)]), (10, [.c (.pv (.sl (List.map e_itv_Itv a0.N.I)))]), (11, [.c (.pv (.int .i64 (a0.N.I.length : Int)))]), (12, [.c (.pv (.int .i64 x2.1))])]) (st' := [none, some (.row true true 9 1 (List.map e_str v4)), some (.box true 29 [.pv (.int .i64 v2.Lo), .pv (.int .i64 v2.Hi)])]) rfl rfl rfl rfl u70 te9 (by decide) rfl rfl rfl (.sl _) (fun _ => rfl) k6 rfl rfl ?_
        refine R tbok 1 [3, 10, 11, 12] [(3, [.c (.row 1)]), (10, [.c (.pv (.sl (List.map e_itv_Itv a0.N.I)))]), (11, [.c (.pv (.int .i64 (a0.N.I.length : Int)))]), (12, [.c (.pv (.int .i64 x2.1))])] (by kernel_rfl) ?_
        refine ops_nil ?_
        refine bN ?_
        refine then_ ?_
        refine region_ ?_
        refine R tbok 2 [12, 3, 10, 11] [(12, [.c (.pv (.int .i64 (IntKind.i64.wrap (x2.1 + 1))))]), (3, [.c (.row 1)]), (10, [.c (.pv (.sl (List.map e_itv_Itv a0.N.I)))]), (11, [.c (.pv (.int .i64 (a0.N.I.length : Int)))])] (by kernel_rfl) ?_
        refine ops_nil ?_
        obtain rfl := retE h
        refine lN ?_
        refine w_sub (env' := [(3, [.c (.row 1)]), (10, [.c (.pv (.sl (List.map e_itv_Itv a0.N.I)))]), (11, [.c (.pv (.int .i64 (a0.N.I.length : Int)))]), (12, [.c (.pv (.int .i64 (IntKind.i64.wrap (x2.1 + 1))))])]) (sub_cons rfl (sub_cons rfl (sub_cons rfl (sub_cons rfl sub_nil)))) ?_
        refine w_cut 2 rfl rfl rfl rfl ?_
        exact wkE (by kernel_rfl) (by kernel_rfl)
      · have h := iteF h k3
        refine exit_ ?_
        refine tX ?_
        obtain rfl := retE h
        refine lX ?_
        refine w_sub (env' := [(3, [.c (.row 1)])]) (sub_cons rfl sub_nil) ?_
        exact wkE (by kernel_rfl) (by kernel_rfl)
    · cases h
    · have h := elimR h
      refine then_ ?_
      refine seq_ ?_
      refine seq_ ?_
      refine region_ ?_
      refine R tbok 1 [22, 3] [(22, [.c (.row 1)]), (3, [.c (.row 1)])] (by kernel_rfl) ?_
      refine L rfl rfl (len_row (e := e_str) rfl u70 rfl rfl) rfl ?_
      refine R tbok 1 [24, 3] [(24, [.c (.pv (.bool ((j2.length : Int) == 0)))]), (3, [.c (.row 1)])] (by kernel_rfl) ?_
      refine ops_nil ?_
      refine then_ ?_
      refine cond_ (b := ((j2.length : Int) == 0)) rfl (fun k7 => ?_) (fun k7 => ?_)
      · have h := iteT h k7
        refine seq_ ?_
        refine region_ ?_
        refine R tbok 1 [2, 3] [(2, [.c (.pv (.str (ByteArray.mk #[110, 111, 116, 104, 105, 110, 103])))]), (3, [.c (.row 1)])] (by kernel_rfl) ?_
        refine ops_nil ?_
        refine then_ ?_
        refine ret_ ?_
        obtain rfl := retE h
        refine tR (rwr (rw_ (.tmp rfl .nil) ?_))
        refine w_none 1 (.s .z) ?_
        refine w_cut 0 rfl rfl rfl rfl ?_
        exact wkE (by kernel_rfl) (by kernel_rfl)
      · have h := iteF h k7
        refine skip_ ?_
        refine then_ ?_
        refine seq_ ?_
        refine region_ ?_
        refine R tbok 1 [25] [(25, [.c (.row 1)])] (by kernel_rfl) ?_
        obtain ⟨v5, k8, h⟩ := bindE h
        refine C rfl rfl (fl_callB rfl Tryd.call36 rfl (by kernel_rfl) (by kernel_rfl) rfl (join_meets k8)) rfl ?_
        refine R tbok 1 [2] [(2, [.c (.pv (.str v5))])] (by kernel_rfl) ?_
        refine ops_nil ?_
        refine then_ ?_
        refine ret_ ?_
        obtain rfl := retE h
        refine rwr (rw_ (.tmp rfl .nil) ?_)
        refine w_none 1 (.s .z) ?_
        refine w_cut 0 rfl rfl rfl rfl ?_
        exact wkE (by kernel_rfl) (by kernel_rfl)

theorem queue_Tags_meets {a0 : queue_Elem} {r : (List Int)} (h : queue_Tags a0 = some r) : MeetsV Tryd.prog GG 45 [.agg [.pv (.int .i64 a0.Len.Lo), .pv (.int .i64 a0.Len.Hi), .pv (.sl (List.map e_itv_Itv a0.Vals))]] [.c (.pv (.sl (List.map e_i64 r)))] := by
  refine MeetsS.toV (meetsW_of (st0 := []) (N := 23) r_queue_Tags o_queue_Tags r Tryd.func45 rfl rfl rfl (by dsimp only [argEnv]) rfl ?_) rfl
  unfold queue_Tags at h
  refine seq_ ?_
  refine region_ ?_
  refine B rfl rfl (bir_box rfl rfl rfl) rfl rfl .z ?_
  refine R tbok 1 [2, 1] [(2, [.c (.emp)]), (1, [.c (.box 0 0)])] (by kernel_rfl) ?_
  refine ops_nil ?_
  refine then_ ?_
  refine seq_ ?_
  refine region_ ?_
  refine R tbok 1 [3, 2, 1] [(3, [.c (.emp)]), (2, [.c (.emp)]), (1, [.c (.box 0 0)])] (by kernel_rfl) ?_
  refine ops_nil ?_
  refine then_ ?_
  refine seq_ ?_
  refine seq_ ?_
  refine region_ ?_
  refine R tbok 2 [7, 3, 2] [(7, [.c (.pv (.sl (List.map e_itv_Itv a0.Vals)))]), (3, [.c (.emp)]), (2, [.c (.emp)])] (by kernel_rfl) ?_
  refine L rfl rfl (len_sl (e := e_itv_Itv) rfl u38 rfl) rfl ?_
  refine R tbok 1 [9, 8, 7, 3, 2] [(9, [.c (.pv (.int .i64 0))]), (8, [.c (.pv (.int .i64 (a0.Vals.length : Int)))]), (7, [.c (.pv (.sl (List.map e_itv_Itv a0.Vals)))]), (3, [.c (.emp)]), (2, [.c (.emp)])] (by kernel_rfl) ?_
  refine ops_nil ?_
  refine then_ ?_
  refine CodeT.weak (w_lift 3 3 1 rfl (.s .z) (Weak.refl _)) ?_
  refine lp_ (Qr := RW Tryd.prog GG Tryd.f45 0 r_queue_Tags o_queue_Tags) (queue_Tags_l2 a0) (fun (x2 : (Int × (List Int))) => (⟨23, 0, [(3, [.c (.row 1)]), (7, [.c (.pv (.sl (List.map e_itv_Itv a0.Vals)))]), (8, [.c (.pv (.int .i64 (a0.Vals.length : Int)))]), (9, [.c (.pv (.int .i64 x2.1))])], [none, some (.row true true 3 1 (List.map e_i64 x2.2))]⟩ : Sx)) (fun (j2 : (List Int)) => (⟨23, 0, [(3, [.c (.row 1)])], [none, some (.row true true 3 1 (List.map e_i64 j2))]⟩ : Sx)) (0, []) RW.only h wT ?_ (fun x2 o h => ?_) (fun r h s' hs => ?_) (fun j2 h => ?_)
  · refine w_sub (env' := [(3, [.c (.row 1)]), (7, [.c (.pv (.sl (List.map e_itv_Itv a0.Vals)))]), (8, [.c (.pv (.int .i64 (a0.Vals.length : Int)))]), (9, [.c (.pv (.int .i64 0))])]) (sub_cons rfl (sub_cons rfl (sub_cons rfl (sub_cons rfl sub_nil)))) ?_
    refine w_none 0 .z ?_
    refine w_ch 1 rfl (.s .z) ?_
    exact wkE (by kernel_rfl) (by kernel_rfl)
  · unfold queue_Tags_l2 at h
    refine seq_ ?_
    refine region_ ?_
    refine R tbok 1 [10, 3, 7, 8, 9] [(10, [.c (.pv (.bool (decide (x2.1 < (a0.Vals.length : Int)))))]), (3, [.c (.row 1)]), (7, [.c (.pv (.sl (List.map e_itv_Itv a0.Vals)))]), (8, [.c (.pv (.int .i64 (a0.Vals.length : Int)))]), (9, [.c (.pv (.int .i64 x2.1))])] (by kernel_rfl) ?_
    refine ops_nil ?_
    refine then_ ?_
    refine seq_ ?_
    refine cond_ (b := (decide (x2.1 < (a0.Vals.length : Int)))) rfl (fun k1 => ?_) (fun k1 => ?_)
    · have h := iteT h k1
      refine skip_ ?_
      refine then_ ?_
      refine seq_ ?_
      refine jn_ (fun (j3 : (List Int)) => (⟨23, 0, [(3, [.c (.row 1)]), (7, [.c (.pv (.sl (List.map e_itv_Itv a0.Vals)))]), (8, [.c (.pv (.int .i64 (a0.Vals.length : Int)))]), (9, [.c (.pv (.int .i64 x2.1))])], [none, some (.row true true 3 1 (List.map e_i64 j3))]⟩ : Sx)) h wT (fun o h => ?_) (fun j3 h => ?_)
      · refine block_ ?_
        refine seq_ ?_
        refine region_ ?_
        refine R tbok 1 [11, 3, 7, 8, 9] [(11, [.c (.pv (.int .i64 x2.1))]), (3, [.c (.row 1)]), (7, [.c (.pv (.sl (List.map e_itv_Itv a0.Vals)))]), (8, [.c (.pv (.int .i64 (a0.Vals.length : Int)))]), (9, [.c (.pv (.int .i64 x2.1))])] (by kernel_rfl) ?_
        obtain ⟨v1, k2, h⟩ := bindE h
        refine L rfl rfl (ia_sl (e := e_itv_Itv) (y := v1) rfl u38 ty29 rfl rfl k2 rfl) rfl ?_
        refine R tbok 1 [13, 11, 3, 7, 8, 9] [(13, [.agg [.pv (.int .i64 v1.Lo), .pv (.int .i64 v1.Hi)]]), (11, [.c (.pv (.int .i64 x2.1))]), (3, [.c (.row 1)]), (7, [.c (.pv (.sl (List.map e_itv_Itv a0.Vals)))]), (8, [.c (.pv (.int .i64 (a0.Vals.length : Int)))]), (9, [.c (.pv (.int .i64 x2.1))])] (by kernel_rfl) ?_
        refine B rfl rfl (bir_alloc rfl z29 rfl rfl) rfl rfl (.s (.s .z)) ?_
        refine R tbok 1 [4, 5, 13, 3, 7, 8, 9] [(4, [.c (.pv (.int .i64 x2.1))]), (5, [.c (.box 2 0)]), (13, [.agg [.pv (.int .i64 v1.Lo), .pv (.int .i64 v1.Hi)]]), (3, [.c (.row 1)]), (7, [.c (.pv (.sl (List.map e_itv_Itv a0.Vals)))]), (8, [.c (.pv (.int .i64 (a0.Vals.length : Int)))]), (9, [.c (.pv (.int .i64 x2.1))])] (by kernel_rfl) ?_
        refine S rfl rfl rfl ty29 (by decide) rfl rfl rfl rfl rfl (.all rfl) (.s (.s .z)) ?_
        refine ops_nil ?_
        refine then_ ?_
        refine seq_ ?_
        refine region_ ?_
        refine R tbok 1 [14, 4, 3, 7, 8, 9] [(14, [.agg [.pv (.int .i64 v1.Lo), .pv (.int .i64 v1.Hi)]]), (4, [.c (.pv (.int .i64 x2.1))]), (3, [.c (.row 1)]), (7, [.c (.pv (.sl (List.map e_itv_Itv a0.Vals)))]), (8, [.c (.pv (.int .i64 (a0.Vals.length : Int)))]), (9, [.c (.pv (.int .i64 x2.1))])] (by kernel_rfl) ?_
        obtain ⟨v2, k3, h⟩ := bindE h
        refine C rfl rfl (fl_call rfl Tryd.call28 rfl (by kernel_rfl) (by kernel_rfl) (itv_Empty_meets k3)) rfl ?_
        refine R tbok 1 [16, 4, 3, 7, 8, 9] [(16, [.c (.pv (.bool (!v2)))]), (4, [.c (.pv (.int .i64 x2.1))]), (3, [.c (.row 1)]), (7, [.c (.pv (.sl (List.map e_itv_Itv a0.Vals)))]), (8, [.c (.pv (.int .i64 (a0.Vals.length : Int)))]), (9, [.c (.pv (.int .i64 x2.1))])] (by kernel_rfl) ?_
        refine ops_nil ?_
        refine then_ ?_
        refine cond_ (b := (!v2)) rfl (fun k4 => ?_) (fun k4 => ?_)
        · have h := iteT h k4
          refine region_ ?_
          refine R tbok 2 [18, 17, 3, 7, 8, 9] [(18, [.c (.pv (.int .i64 x2.1))]), (17, [.c (.row 1)]), (3, [.c (.row 1)]), (7, [.c (.pv (.sl (List.map e_itv_Itv a0.Vals)))]), (8, [.c (.pv (.int .i64 (a0.Vals.length : Int)))]), (9, [.c (.pv (.int .i64 x2.1))])] (by kernel_rfl) ?_
          refine C rfl rfl (fl_slice (List.map e_i64 [x2.1]) rfl sl94 rfl rfl rfl rfl rfl rfl rfl) rfl ?_
          obtain ⟨v3, k5, h⟩ := bindE h
          refine app_ (e := e_i64) (M := [x2.1]) (env' := [(19, [.c (.pv (.sl (List.map e_i64 [x2.1])))]), (18, [.c (.pv (.int .i64 x2.1))]), (17, [.c (.any)]), (3, [.c (.any)]), (7, [.c (.pv (.sl (List.map e_itv_Itv a0.Vals)))]), (8, [.c (.pv (.int .i64 (a0.Vals.length : Int)))]), (9, [.c (.pv (.int .i64 x2.1))])]) (st' := [none, some (.row true true 3 1 (List.map e_i64 v3)), some (.box true 29 [.pv (.int .i64 v1.Lo), .pv (.int .i64 v1.Hi)])]) rfl rfl rfl rfl u94 te3 (by decide) rfl rfl rfl (.sl _) (fun _ => rfl) k5 rfl rfl ?_
          refine R tbok 1 [3, 7, 8, 9] [(3, [.c (.row 1)]), (7, [.c (.pv (.sl (List.map e_itv_Itv a0.Vals)))]), (8, [.c (.pv (.int .i64 (a0.Vals.length : Int)))]), (9, [.c (.pv (.int .i64 x2.1))])] (by kernel_rfl) ?_
          refine ops_nil ?_
          refine bN ?_
          obtain rfl := retE h
          refine mN ?_
          refine w_cut 2 rfl rfl rfl rfl ?_
          exact wkE (by kernel_rfl) (by kernel_rfl)
        · have h := iteF h k4
          refine skip_ ?_
          refine bN ?_
          obtain rfl := retE h
          refine mN ?_
          refine w_sub (env' := [(3, [.c (.row 1)]), (7, [.c (.pv (.sl (List.map e_itv_Itv a0.Vals)))]), (8, [.c (.pv (.int .i64 (a0.Vals.length : Int)))]), (9, [.c (.pv (.int .i64 x2.1))])]) (sub_cons rfl (sub_cons rfl (sub_cons rfl (sub_cons rfl sub_nil)))) ?_
          refine w_cut 2 rfl rfl rfl rfl ?_
          exact wkE (by kernel_rfl) (by kernel_rfl)
      · refine then_ ?_
        refine region_ ?_
        refine R tbok 2 [9, 3, 7, 8] [(9, [.c (.pv (.int .i64 (IntKind.i64.wrap (x2.1 + 1))))]), (3, [.c (.row 1)]), (7, [.c (.pv (.sl (List.map e_itv_Itv a0.Vals)))]), (8, [.c (.pv (.int .i64 (a0.Vals.length : Int)))])] (by kernel_rfl) ?_
        refine ops_nil ?_
        obtain rfl := retE h
        refine lN ?_
        refine w_sub (env' := [(3, [.c (.row 1)]), (7, [.c (.pv (.sl (List.map e_itv_Itv a0.Vals)))]), (8, [.c (.pv (.int .i64 (a0.Vals.length : Int)))]), (9, [.c (.pv (.int .i64 (IntKind.i64.wrap (x2.1 + 1))))])]) (sub_cons rfl (sub_cons rfl (sub_cons rfl (sub_cons rfl sub_nil)))) ?_
        exact wkE (by kernel_rfl) (by kernel_rfl)
    · have h := iteF h k1
      refine exit_ ?_
      refine tX ?_
      obtain rfl := retE h
      refine lX ?_
      refine w_sub (env' := [(3, [.c (.row 1)])]) (sub_cons rfl sub_nil) ?_
      exact wkE (by kernel_rfl) (by kernel_rfl)
  · cases h
  · have h := elimR h
    refine then_ ?_
    refine seq_ ?_
    refine region_ ?_
    refine R tbok 2 [2] [(2, [.c (.row 1)])] (by kernel_rfl) ?_
    refine ops_nil ?_
    refine then_ ?_
    refine ret_ ?_
    obtain rfl := retE h
    refine rwr (rw_ (.tmp rfl .nil) ?_)
    refine (w_freeze (b := 1) (env' := [(0, [.c (.pv (.sl (List.map e_i64 j2)))])]) (st' := [none, none]) rfl rfl rfl ?_)
    refine w_cut 0 rfl rfl rfl rfl ?_
    exact wkE (by kernel_rfl) (by kernel_rfl)

theorem report_channel_meets {a0 : queue_Elem} {r : ByteArray} (h : report_channel a0 = some r) : MeetsV Tryd.prog GG 34 [.agg [.pv (.int .i64 a0.Len.Lo), .pv (.int .i64 a0.Len.Hi), .pv (.sl (List.map e_itv_Itv a0.Vals))]] [.c (.pv (.str r))] := by
  refine MeetsS.toV (meetsW_of (st0 := []) (N := 35) r_report_channel o_report_channel r Tryd.func34 rfl rfl rfl (by dsimp only [argEnv]) rfl ?_) rfl
  unfold report_channel at h
  refine seq_ ?_
  refine region_ ?_
  refine B rfl rfl (bir_box rfl rfl rfl) rfl rfl .z ?_
  refine R tbok 1 [2, 1] [(2, [.c (.pv (.str (ByteArray.mk #[])))]), (1, [.c (.box 0 0)])] (by kernel_rfl) ?_
  refine ops_nil ?_
  refine then_ ?_
  refine seq_ ?_
  refine region_ ?_
  refine R tbok 2 [7, 2, 1] [(7, [.agg [.pv (.int .i64 a0.Len.Lo), .pv (.int .i64 a0.Len.Hi)]]), (2, [.c (.pv (.str (ByteArray.mk #[])))]), (1, [.c (.box 0 0)])] (by kernel_rfl) ?_
  obtain ⟨v1, k1, h⟩ := bindE h
  refine C rfl rfl (fl_call rfl Tryd.call15 rfl (by kernel_rfl) (by kernel_rfl) (report_Itv_meets k1)) rfl ?_
  obtain ⟨v2, k2, h⟩ := bindE h
  refine L rfl rfl (cat_ rfl rfl rfl k2) rfl ?_
  refine B rfl rfl (bir_slice (List.map e_str [v2]) rfl sl70 rfl rfl rfl rfl rfl rfl rfl rfl) rfl rfl (.s .z) ?_
  refine R tbok 1 [3, 2, 1] [(3, [.c (.row 1)]), (2, [.c (.pv (.str (ByteArray.mk #[])))]), (1, [.c (.box 0 0)])] (by kernel_rfl) ?_
  refine ops_nil ?_
  refine then_ ?_
  refine seq_ ?_
  refine seq_ ?_
  refine region_ ?_
  refine R tbok 1 [11, 3, 2, 1] [(11, [.agg [.pv (.int .i64 a0.Len.Lo), .pv (.int .i64 a0.Len.Hi), .pv (.sl (List.map e_itv_Itv a0.Vals))]]), (3, [.c (.row 1)]), (2, [.c (.pv (.str (ByteArray.mk #[])))]), (1, [.c (.box 0 0)])] (by kernel_rfl) ?_
  obtain ⟨v3, k3, h⟩ := bindE h
  refine C rfl rfl (fl_call rfl Tryd.call45 rfl (by kernel_rfl) (by kernel_rfl) (queue_Tags_meets k3)) rfl ?_
  refine L rfl rfl (len_sl (e := e_i64) rfl u94 rfl) rfl ?_
  refine R tbok 1 [14, 13, 12, 3, 2, 1] [(14, [.c (.pv (.int .i64 0))]), (13, [.c (.pv (.int .i64 (v3.length : Int)))]), (12, [.c (.pv (.sl (List.map e_i64 v3)))]), (3, [.c (.row 1)]), (2, [.c (.pv (.str (ByteArray.mk #[])))]), (1, [.c (.box 0 0)])] (by kernel_rfl) ?_
  refine ops_nil ?_
  refine then_ ?_
  refine lp_ (Qr := RW Tryd.prog GG Tryd.f34 0 r_report_channel o_report_channel) (report_channel_l1 a0 v3) (fun (x1 : (Int × (List ByteArray))) => (⟨35, 0, [(1, [.c (.box 0 0)]), (3, [.c (.row 1)]), (12, [.c (.pv (.sl (List.map e_i64 v3)))]), (13, [.c (.pv (.int .i64 (v3.length : Int)))]), (14, [.c (.pv (.int .i64 x1.1))])], [some (.box true 50 [.pv (.int .i64 a0.Len.Lo), .pv (.int .i64 a0.Len.Hi), .pv (.sl (List.map e_itv_Itv a0.Vals))]), some (.row true true 9 1 (List.map e_str x1.2))]⟩ : Sx)) (fun (j1 : (List ByteArray)) => (⟨35, 0, [(3, [.c (.row 1)])], [none, some (.row true true 9 1 (List.map e_str j1))]⟩ : Sx)) (0, [v2]) RW.only h wT ?_ (fun x1 o h => ?_) (fun r h s' hs => ?_) (fun j1 h => ?_)
  · refine w_sub (env' := [(1, [.c (.box 0 0)]), (3, [.c (.row 1)]), (12, [.c (.pv (.sl (List.map e_i64 v3)))]), (13, [.c (.pv (.int .i64 (v3.length : Int)))]), (14, [.c (.pv (.int .i64 0))])]) (sub_cons rfl (sub_cons rfl (sub_cons rfl (sub_cons rfl (sub_cons rfl sub_nil))))) ?_
    refine w_ch 1 rfl (.s .z) ?_
    exact wkE (by kernel_rfl) (by kernel_rfl)
  · unfold report_channel_l1 at h
    refine seq_ ?_
    refine region_ ?_
    refine R tbok 1 [15, 1, 3, 12, 13, 14] [(15, [.c (.pv (.bool (decide (x1.1 < (v3.length : Int)))))]), (1, [.c (.box 0 0)]), (3, [.c (.row 1)]), (12, [.c (.pv (.sl (List.map e_i64 v3)))]), (13, [.c (.pv (.int .i64 (v3.length : Int)))]), (14, [.c (.pv (.int .i64 x1.1))])] (by kernel_rfl) ?_
    refine ops_nil ?_
    refine then_ ?_
    refine seq_ ?_
    refine cond_ (b := (decide (x1.1 < (v3.length : Int)))) rfl (fun k4 => ?_) (fun k4 => ?_)
    · have h := iteT h k4
      refine skip_ ?_
      refine then_ ?_
      refine seq_ ?_
      refine block_ ?_
      refine seq_ ?_
      refine region_ ?_
      obtain ⟨v4, k5, h⟩ := bindE h
      refine L rfl rfl (ia_sl (e := e_i64) (y := v4) rfl u94 ty3 rfl rfl k5 rfl) rfl ?_
      refine R tbok 2 [5, 1, 3, 12, 13, 14] [(5, [.c (.pv (.int .i64 v4))]), (1, [.c (.box 0 0)]), (3, [.c (.row 1)]), (12, [.c (.pv (.sl (List.map e_i64 v3)))]), (13, [.c (.pv (.int .i64 (v3.length : Int)))]), (14, [.c (.pv (.int .i64 x1.1))])] (by kernel_rfl) ?_
      refine ops_nil ?_
      refine then_ ?_
      refine drawn_ mixed ?_
      refine dl (t := 18) 0 [.c (.row 1)] rfl ?_
      refine dl (t := 19) 1 [.c (.pv (.int .i64 v4))] rfl ?_
      obtain ⟨v6, k7, h⟩ := bindE h
      refine dl (t := 20) 2 [.c (.pv (.str v6))] rfl ?_
      obtain ⟨v7, k8, h⟩ := bindE h
      refine dl (t := 21) 3 [.c (.pv (.str v7))] rfl ?_
      obtain ⟨v8, k9, h⟩ := bindE h
      refine dl (t := 22) 4 [.c (.pv (.str v8))] rfl ?_
      refine dl (t := 23) 5 [.c (.box 0 2)] rfl ?_
      refine dl (t := 24) 6 [.c (.pv (.sl (List.map e_itv_Itv a0.Vals)))] rfl ?_
      refine dl (t := 25) 7 [.c (.pv (.int .i64 v4))] rfl ?_
      obtain ⟨v9, k10, h⟩ := bindE h
      refine dl (t := 26) 8 [.c (.ep [.int .i64 v9.Lo, .int .i64 v9.Hi])] rfl ?_
      refine dl (t := 27) 9 [.agg [.pv (.int .i64 v9.Lo), .pv (.int .i64 v9.Hi)]] rfl ?_
      obtain ⟨v11, k12, h⟩ := bindE h
      refine dl (t := 28) 10 [.c (.pv (.str v11))] rfl ?_
      obtain ⟨v12, k13, h⟩ := bindE h
      refine dl (t := 29) 11 [.c (.pv (.str v12))] rfl ?_
      refine dl (t := 30) 12 [.c (.pv (.sl (List.map e_str [v12])))] rfl ?_
      obtain ⟨v13, k14, h⟩ := bindE h
      refine d_append (env1 := [(5, [.c (.pv (.int .i64 v4))]), (1, [.c (.box 0 0)]), (3, [.c (.any)]), (12, [.c (.pv (.sl (List.map e_i64 v3)))]), (13, [.c (.pv (.int .i64 (v3.length : Int)))]), (14, [.c (.pv (.int .i64 x1.1))])]) (T1 := [⟨12, some 30, [.c (.pv (.sl (List.map e_str [v12])))], .light⟩, ⟨11, some 29, [.c (.pv (.str v12))], .light⟩, ⟨10, some 28, [.c (.pv (.str v11))], .light⟩, ⟨9, some 27, [.agg [.pv (.int .i64 v9.Lo), .pv (.int .i64 v9.Hi)]], .light⟩, ⟨8, some 26, [.c (.ep [.int .i64 v9.Lo, .int .i64 v9.Hi])], .light⟩, ⟨7, some 25, [.c (.pv (.int .i64 v4))], .light⟩, ⟨6, some 24, [.c (.pv (.sl (List.map e_itv_Itv a0.Vals)))], .light⟩, ⟨5, some 23, [.c (.box 0 2)], .light⟩, ⟨4, some 22, [.c (.pv (.str v8))], .light⟩, ⟨3, some 21, [.c (.pv (.str v7))], .light⟩, ⟨2, some 20, [.c (.pv (.str v6))], .light⟩, ⟨1, some 19, [.c (.pv (.int .i64 v4))], .light⟩, ⟨0, some 18, [.c (.any)], .light⟩]) (st' := [some (.box true 50 [.pv (.int .i64 a0.Len.Lo), .pv (.int .i64 a0.Len.Hi), .pv (.sl (List.map e_itv_Itv a0.Vals))]), some (.row true true 9 1 (List.map e_str v13))]) (wm [0, 0, 2, 6, 14, 0, 32, 0, 224, 480, 998, 2046, 4094, 8191, 16383]) 13 rfl (by kernel_rfl) (by kernel_rfl) (by kernel_rfl) (by kernel_rfl) (by kernel_rfl) (gi0 rfl) (oL [] rfl (by kernel_rfl) (fl_slice (List.map e_str [v12]) rfl sl70 rfl rfl rfl rfl rfl rfl rfl) (oL [] rfl (by kernel_rfl) (fl_lt (cat_ rfl rfl rfl k13)) (oL [] rfl (by kernel_rfl) (fl_call rfl Tryd.call15 rfl (by kernel_rfl) (by kernel_rfl) (report_Itv_meets k12)) (oE tbok [] 1 (by kernel_rfl) (oL [] rfl (by kernel_rfl) (fl_lt (ia_sl (e := e_itv_Itv) (y := v9) rfl u38 ty29 rfl rfl k10 rfl)) (oE tbok [] 3 (by kernel_rfl) (oL [] rfl (by kernel_rfl) (fl_lt (cat_ rfl rfl rfl k9)) (oL [] rfl (by kernel_rfl) (fl_lt (cat_ rfl rfl rfl k8)) (oL [] rfl (by kernel_rfl) (fl_call rfl Tryd.call29 rfl (by kernel_rfl) (by kernel_rfl) (itoa_meets k7)) (oE tbok [] 2 (by kernel_rfl) trivial)))))))))) rfl rfl rfl u70 te9 (by decide) rfl rfl rfl (.sl _) (ys := List.map e_str [v12]) rfl (app_len k14) rfl rfl (app_set (e := e_str) k14 (by rfl)) ?_
      refine dl (t := 3) 14 [.c (.row 1)] rfl ?_
      refine d_endS (env2 := [(3, [.c (.row 1)]), (1, [.c (.box 0 0)]), (12, [.c (.pv (.sl (List.map e_i64 v3)))]), (13, [.c (.pv (.int .i64 (v3.length : Int)))]), (14, [.c (.pv (.int .i64 x1.1))])]) (wm [0, 0, 2, 6, 14, 0, 32, 0, 224, 480, 998, 2046, 4094, 8191, 16383]) (by kernel_rfl) (by kernel_rfl) (by kernel_rfl) (oE tbok [] 1 (by kernel_rfl) (oN 14 (by kernel_rfl) trivial)) (sub_cons rfl (sub_cons rfl (sub_cons rfl (sub_cons rfl (sub_cons rfl sub_nil))))) (wB wT) ?_
      refine bN ?_
      refine then_ ?_
      refine region_ ?_
      refine R tbok 2 [14, 3, 1, 12, 13] [(14, [.c (.pv (.int .i64 (IntKind.i64.wrap (x1.1 + 1))))]), (3, [.c (.row 1)]), (1, [.c (.box 0 0)]), (12, [.c (.pv (.sl (List.map e_i64 v3)))]), (13, [.c (.pv (.int .i64 (v3.length : Int)))])] (by kernel_rfl) ?_
      refine ops_nil ?_
      obtain rfl := retE h
      refine lN ?_
      refine w_sub (env' := [(1, [.c (.box 0 0)]), (3, [.c (.row 1)]), (12, [.c (.pv (.sl (List.map e_i64 v3)))]), (13, [.c (.pv (.int .i64 (v3.length : Int)))]), (14, [.c (.pv (.int .i64 (IntKind.i64.wrap (x1.1 + 1))))])]) (sub_cons rfl (sub_cons rfl (sub_cons rfl (sub_cons rfl (sub_cons rfl sub_nil))))) ?_
      exact wkE (by kernel_rfl) (by kernel_rfl)
    · have h := iteF h k4
      refine exit_ ?_
      refine tX ?_
      obtain rfl := retE h
      refine lX ?_
      refine w_sub (env' := [(3, [.c (.row 1)])]) (sub_cons rfl sub_nil) ?_
      refine w_none 0 .z ?_
      exact wkE (by kernel_rfl) (by kernel_rfl)
  · cases h
  · have h := elimR h
    refine then_ ?_
    refine seq_ ?_
    refine region_ ?_
    refine R tbok 1 [33] [(33, [.c (.row 1)])] (by kernel_rfl) ?_
    obtain ⟨v14, k15, h⟩ := bindE h
    refine C rfl rfl (fl_callB rfl Tryd.call36 rfl (by kernel_rfl) (by kernel_rfl) rfl (join_meets k15)) rfl ?_
    refine R tbok 1 [2] [(2, [.c (.pv (.str v14))])] (by kernel_rfl) ?_
    refine ops_nil ?_
    refine then_ ?_
    refine ret_ ?_
    obtain rfl := retE h
    refine rwr (rw_ (.tmp rfl .nil) ?_)
    refine w_none 1 (.s .z) ?_
    refine w_cut 0 rfl rfl rfl rfl ?_
    exact wkE (by kernel_rfl) (by kernel_rfl)

theorem report_last_meets {a0 : Int} {r : ByteArray} (h : report_last a0 = some r) : MeetsV Tryd.prog GG 35 [.c (.pv (.int .i64 a0))] [.c (.pv (.str r))] := by
  refine MeetsS.toV (meetsW_of (st0 := []) (N := 8) r_report_last o_report_last r Tryd.func35 rfl rfl rfl (by dsimp only [argEnv]) rfl ?_) rfl
  unfold report_last at h
  refine seq_ ?_
  refine region_ ?_
  refine R tbok 1 [2, 0] [(2, [.c (.pv (.str (ByteArray.mk #[])))]), (0, [.c (.pv (.int .i64 a0))])] (by kernel_rfl) ?_
  refine ops_nil ?_
  refine then_ ?_
  refine seq_ ?_
  refine seq_ ?_
  refine region_ ?_
  refine R tbok 2 [4, 2, 0] [(4, [.c (.pv (.bool (a0 == 0)))]), (2, [.c (.pv (.str (ByteArray.mk #[])))]), (0, [.c (.pv (.int .i64 a0))])] (by kernel_rfl) ?_
  refine ops_nil ?_
  refine then_ ?_
  refine cond_ (b := (a0 == 0)) rfl (fun k1 => ?_) (fun k1 => ?_)
  · have h := iteT h k1
    refine seq_ ?_
    refine region_ ?_
    refine R tbok 1 [2, 0] [(2, [.c (.pv (.str (ByteArray.mk #[110, 111, 32, 97, 108, 97, 114, 109])))]), (0, [.c (.pv (.int .i64 a0))])] (by kernel_rfl) ?_
    refine ops_nil ?_
    refine then_ ?_
    refine ret_ ?_
    obtain rfl := retE h
    refine tR (rwr (rw_ (.tmp rfl .nil) ?_))
    exact wkE (by kernel_rfl) (by kernel_rfl)
  · have h := iteF h k1
    refine skip_ ?_
    refine then_ ?_
    refine seq_ ?_
    refine region_ ?_
    refine R tbok 1 [5, 2] [(5, [.c (.pv (.int .i64 a0))]), (2, [.c (.pv (.str (ByteArray.mk #[])))])] (by kernel_rfl) ?_
    obtain ⟨v1, k2, h⟩ := bindE h
    refine C rfl rfl (fl_call rfl Tryd.call29 rfl (by kernel_rfl) (by kernel_rfl) (itoa_meets k2)) rfl ?_
    obtain ⟨v2, k3, h⟩ := bindE h
    refine L rfl rfl (cat_ rfl rfl rfl k3) rfl ?_
    refine R tbok 1 [2] [(2, [.c (.pv (.str v2))])] (by kernel_rfl) ?_
    refine ops_nil ?_
    refine then_ ?_
    refine ret_ ?_
    obtain rfl := retE h
    refine rwr (rw_ (.tmp rfl .nil) ?_)
    exact wkE (by kernel_rfl) (by kernel_rfl)

theorem report_Text_meets {a0 : outer_Result} {r : ByteArray} (h : report_Text a0 = some r) : MeetsV Tryd.prog GG 20 [.agg [.pv (.sl (List.map e_sl51 a0.At)), .pv (.sl (List.map e_queue_Elem a0.Elems)), .pv (.sl (List.map e_fix_Alarm a0.Alarms)), .pv (.int .i64 a0.Steps)]] [.c (.pv (.str r))] := by
  refine MeetsS.toV (meetsW_of (st0 := []) (N := 91) r_report_Text o_report_Text r Tryd.func20 rfl rfl rfl (by dsimp only [argEnv]) rfl ?_) rfl
  unfold report_Text at h
  refine seq_ ?_
  refine region_ ?_
  refine B rfl rfl (bir_box rfl rfl rfl) rfl rfl .z ?_
  refine R tbok 1 [2, 1] [(2, [.c (.pv (.str (ByteArray.mk #[])))]), (1, [.c (.box 0 0)])] (by kernel_rfl) ?_
  refine ops_nil ?_
  refine then_ ?_
  refine seq_ ?_
  refine region_ ?_
  refine R tbok 2 [13, 2, 1] [(13, [.c (.pv (.int .i64 a0.Steps))]), (2, [.c (.pv (.str (ByteArray.mk #[])))]), (1, [.c (.box 0 0)])] (by kernel_rfl) ?_
  obtain ⟨v1, k1, h⟩ := bindE h
  refine C rfl rfl (fl_call rfl Tryd.call29 rfl (by kernel_rfl) (by kernel_rfl) (itoa_meets k1)) rfl ?_
  obtain ⟨v2, k2, h⟩ := bindE h
  refine L rfl rfl (cat_ rfl rfl rfl k2) rfl ?_
  refine B rfl rfl (bir_slice (List.map e_str [v2]) rfl sl70 rfl rfl rfl rfl rfl rfl rfl rfl) rfl rfl (.s .z) ?_
  refine R tbok 1 [3, 2, 1] [(3, [.c (.row 1)]), (2, [.c (.pv (.str (ByteArray.mk #[])))]), (1, [.c (.box 0 0)])] (by kernel_rfl) ?_
  refine ops_nil ?_
  refine then_ ?_
  refine seq_ ?_
  refine seq_ ?_
  refine region_ ?_
  refine R tbok 2 [18, 3, 2, 1] [(18, [.c (.pv (.sl (List.map e_sl51 a0.At)))]), (3, [.c (.row 1)]), (2, [.c (.pv (.str (ByteArray.mk #[])))]), (1, [.c (.box 0 0)])] (by kernel_rfl) ?_
  refine L rfl rfl (len_sl (e := e_sl51) rfl u52 rfl) rfl ?_
  refine R tbok 1 [20, 19, 18, 3, 2, 1] [(20, [.c (.pv (.int .i64 0))]), (19, [.c (.pv (.int .i64 (a0.At.length : Int)))]), (18, [.c (.pv (.sl (List.map e_sl51 a0.At)))]), (3, [.c (.row 1)]), (2, [.c (.pv (.str (ByteArray.mk #[])))]), (1, [.c (.box 0 0)])] (by kernel_rfl) ?_
  refine ops_nil ?_
  refine then_ ?_
  refine lp_ (Qr := RW Tryd.prog GG Tryd.f20 0 r_report_Text o_report_Text) (report_Text_l1 a0) (fun (x1 : (Int × (List ByteArray))) => (⟨91, 0, [(1, [.c (.box 0 0)]), (3, [.c (.row 1)]), (18, [.c (.pv (.sl (List.map e_sl51 a0.At)))]), (19, [.c (.pv (.int .i64 (a0.At.length : Int)))]), (20, [.c (.pv (.int .i64 x1.1))])], [some (.box true 55 [.pv (.sl (List.map e_sl51 a0.At)), .pv (.sl (List.map e_queue_Elem a0.Elems)), .pv (.sl (List.map e_fix_Alarm a0.Alarms)), .pv (.int .i64 a0.Steps)]), some (.row true true 9 1 (List.map e_str x1.2))]⟩ : Sx)) (fun (j1 : (List ByteArray)) => (⟨91, 0, [(1, [.c (.box 0 0)]), (3, [.c (.row 1)])], [some (.box true 55 [.pv (.sl (List.map e_sl51 a0.At)), .pv (.sl (List.map e_queue_Elem a0.Elems)), .pv (.sl (List.map e_fix_Alarm a0.Alarms)), .pv (.int .i64 a0.Steps)]), some (.row true true 9 1 (List.map e_str j1))]⟩ : Sx)) (0, [v2]) RW.only h wT ?_ (fun x1 o h => ?_) (fun r h s' hs => ?_) (fun j1 h => ?_)
  · refine w_sub (env' := [(1, [.c (.box 0 0)]), (3, [.c (.row 1)]), (18, [.c (.pv (.sl (List.map e_sl51 a0.At)))]), (19, [.c (.pv (.int .i64 (a0.At.length : Int)))]), (20, [.c (.pv (.int .i64 0))])]) (sub_cons rfl (sub_cons rfl (sub_cons rfl (sub_cons rfl (sub_cons rfl sub_nil))))) ?_
    refine w_ch 1 rfl (.s .z) ?_
    exact wkE (by kernel_rfl) (by kernel_rfl)
  · unfold report_Text_l1 at h
    refine seq_ ?_
    refine region_ ?_
    refine R tbok 1 [21, 1, 3, 18, 19, 20] [(21, [.c (.pv (.bool (decide (x1.1 < (a0.At.length : Int)))))]), (1, [.c (.box 0 0)]), (3, [.c (.row 1)]), (18, [.c (.pv (.sl (List.map e_sl51 a0.At)))]), (19, [.c (.pv (.int .i64 (a0.At.length : Int)))]), (20, [.c (.pv (.int .i64 x1.1))])] (by kernel_rfl) ?_
    refine ops_nil ?_
    refine then_ ?_
    refine seq_ ?_
    refine cond_ (b := (decide (x1.1 < (a0.At.length : Int)))) rfl (fun k3 => ?_) (fun k3 => ?_)
    · have h := iteT h k3
      refine skip_ ?_
      refine then_ ?_
      refine seq_ ?_
      refine block_ ?_
      refine seq_ ?_
      refine region_ ?_
      refine R tbok 1 [22, 1, 3, 18, 19, 20] [(22, [.c (.pv (.int .i64 x1.1))]), (1, [.c (.box 0 0)]), (3, [.c (.row 1)]), (18, [.c (.pv (.sl (List.map e_sl51 a0.At)))]), (19, [.c (.pv (.int .i64 (a0.At.length : Int)))]), (20, [.c (.pv (.int .i64 x1.1))])] (by kernel_rfl) ?_
      obtain ⟨v3, k4, h⟩ := bindE h
      refine L rfl rfl (ia_sl (e := e_sl51) (y := v3) rfl u52 ty51 rfl rfl k4 rfl) rfl ?_
      refine R tbok 3 [5, 4, 1, 3, 18, 19, 20] [(5, [.c (.pv (.sl (List.map e_trans_State v3)))]), (4, [.c (.pv (.int .i64 x1.1))]), (1, [.c (.box 0 0)]), (3, [.c (.row 1)]), (18, [.c (.pv (.sl (List.map e_sl51 a0.At)))]), (19, [.c (.pv (.int .i64 (a0.At.length : Int)))]), (20, [.c (.pv (.int .i64 x1.1))])] (by kernel_rfl) ?_
      refine ops_nil ?_
      refine then_ ?_
      refine seq_ ?_
      refine region_ ?_
      refine R tbok 2 [26, 25, 5, 1, 3, 18, 19, 20] [(26, [.c (.pv (.int .i64 x1.1))]), (25, [.c (.row 1)]), (5, [.c (.pv (.sl (List.map e_trans_State v3)))]), (1, [.c (.box 0 0)]), (3, [.c (.row 1)]), (18, [.c (.pv (.sl (List.map e_sl51 a0.At)))]), (19, [.c (.pv (.int .i64 (a0.At.length : Int)))]), (20, [.c (.pv (.int .i64 x1.1))])] (by kernel_rfl) ?_
      obtain ⟨v4, k5, h⟩ := bindE h
      refine C rfl rfl (fl_call rfl Tryd.call29 rfl (by kernel_rfl) (by kernel_rfl) (itoa_meets k5)) rfl ?_
      obtain ⟨v5, k6, h⟩ := bindE h
      refine L rfl rfl (cat_ rfl rfl rfl k6) rfl ?_
      refine C rfl rfl (fl_slice (List.map e_str [v5]) rfl sl70 rfl rfl rfl rfl rfl rfl rfl) rfl ?_
      obtain ⟨v6, k7, h⟩ := bindE h
      refine app_ (e := e_str) (M := [v5]) (env' := [(29, [.c (.pv (.sl (List.map e_str [v5])))]), (28, [.c (.pv (.str v5))]), (27, [.c (.pv (.str v4))]), (26, [.c (.pv (.int .i64 x1.1))]), (25, [.c (.any)]), (5, [.c (.pv (.sl (List.map e_trans_State v3)))]), (1, [.c (.box 0 0)]), (3, [.c (.any)]), (18, [.c (.pv (.sl (List.map e_sl51 a0.At)))]), (19, [.c (.pv (.int .i64 (a0.At.length : Int)))]), (20, [.c (.pv (.int .i64 x1.1))])]) (st' := [some (.box true 55 [.pv (.sl (List.map e_sl51 a0.At)), .pv (.sl (List.map e_queue_Elem a0.Elems)), .pv (.sl (List.map e_fix_Alarm a0.Alarms)), .pv (.int .i64 a0.Steps)]), some (.row true true 9 1 (List.map e_str v6))]) rfl rfl rfl rfl u70 te9 (by decide) rfl rfl rfl (.sl _) (fun _ => rfl) k7 rfl rfl ?_
      refine R tbok 1 [3, 5, 1, 18, 19, 20] [(3, [.c (.row 1)]), (5, [.c (.pv (.sl (List.map e_trans_State v3)))]), (1, [.c (.box 0 0)]), (18, [.c (.pv (.sl (List.map e_sl51 a0.At)))]), (19, [.c (.pv (.int .i64 (a0.At.length : Int)))]), (20, [.c (.pv (.int .i64 x1.1))])] (by kernel_rfl) ?_
      refine ops_nil ?_
      refine then_ ?_
      refine seq_ ?_
      refine region_ ?_
      refine R tbok 1 [31, 3, 1, 18, 19, 20] [(31, [.c (.pv (.sl (List.map e_trans_State v3)))]), (3, [.c (.row 1)]), (1, [.c (.box 0 0)]), (18, [.c (.pv (.sl (List.map e_sl51 a0.At)))]), (19, [.c (.pv (.int .i64 (a0.At.length : Int)))]), (20, [.c (.pv (.int .i64 x1.1))])] (by kernel_rfl) ?_
      refine L rfl rfl (len_sl (e := e_trans_State) rfl u51 rfl) rfl ?_
      refine R tbok 1 [33, 32, 31, 3, 1, 18, 19, 20] [(33, [.c (.pv (.int .i64 0))]), (32, [.c (.pv (.int .i64 (v3.length : Int)))]), (31, [.c (.pv (.sl (List.map e_trans_State v3)))]), (3, [.c (.row 1)]), (1, [.c (.box 0 0)]), (18, [.c (.pv (.sl (List.map e_sl51 a0.At)))]), (19, [.c (.pv (.int .i64 (a0.At.length : Int)))]), (20, [.c (.pv (.int .i64 x1.1))])] (by kernel_rfl) ?_
      refine ops_nil ?_
      refine then_ ?_
      refine lp_ (Qr := RW Tryd.prog GG Tryd.f20 0 r_report_Text o_report_Text) (report_Text_l2 v3) (fun (x2 : (Int × (List ByteArray))) => (⟨91, 0, [(1, [.c (.box 0 0)]), (3, [.c (.row 1)]), (18, [.c (.pv (.sl (List.map e_sl51 a0.At)))]), (19, [.c (.pv (.int .i64 (a0.At.length : Int)))]), (20, [.c (.pv (.int .i64 x1.1))]), (31, [.c (.pv (.sl (List.map e_trans_State v3)))]), (32, [.c (.pv (.int .i64 (v3.length : Int)))]), (33, [.c (.pv (.int .i64 x2.1))])], [some (.box true 55 [.pv (.sl (List.map e_sl51 a0.At)), .pv (.sl (List.map e_queue_Elem a0.Elems)), .pv (.sl (List.map e_fix_Alarm a0.Alarms)), .pv (.int .i64 a0.Steps)]), some (.row true true 9 1 (List.map e_str x2.2))]⟩ : Sx)) (fun (j2 : (List ByteArray)) => (⟨91, 0, [(1, [.c (.box 0 0)]), (3, [.c (.row 1)]), (18, [.c (.pv (.sl (List.map e_sl51 a0.At)))]), (19, [.c (.pv (.int .i64 (a0.At.length : Int)))]), (20, [.c (.pv (.int .i64 x1.1))])], [some (.box true 55 [.pv (.sl (List.map e_sl51 a0.At)), .pv (.sl (List.map e_queue_Elem a0.Elems)), .pv (.sl (List.map e_fix_Alarm a0.Alarms)), .pv (.int .i64 a0.Steps)]), some (.row true true 9 1 (List.map e_str j2))]⟩ : Sx)) (0, v6) RW.only h (wB wT) ?_ (fun x2 o h => ?_) (fun r h s' hs => ?_) (fun j2 h => ?_)
      · refine w_sub (env' := [(1, [.c (.box 0 0)]), (3, [.c (.row 1)]), (18, [.c (.pv (.sl (List.map e_sl51 a0.At)))]), (19, [.c (.pv (.int .i64 (a0.At.length : Int)))]), (20, [.c (.pv (.int .i64 x1.1))]), (31, [.c (.pv (.sl (List.map e_trans_State v3)))]), (32, [.c (.pv (.int .i64 (v3.length : Int)))]), (33, [.c (.pv (.int .i64 0))])]) (sub_cons rfl (sub_cons rfl (sub_cons rfl (sub_cons rfl (sub_cons rfl (sub_cons rfl (sub_cons rfl (sub_cons rfl sub_nil)))))))) ?_
        exact wkE (by kernel_rfl) (by kernel_rfl)
      · unfold report_Text_l2 at h
        refine seq_ ?_
        refine region_ ?_
        refine R tbok 1 [34, 1, 3, 18, 19, 20, 31, 32, 33] [(34, [.c (.pv (.bool (decide (x2.1 < (v3.length : Int)))))]), (1, [.c (.box 0 0)]), (3, [.c (.row 1)]), (18, [.c (.pv (.sl (List.map e_sl51 a0.At)))]), (19, [.c (.pv (.int .i64 (a0.At.length : Int)))]), (20, [.c (.pv (.int .i64 x1.1))]), (31, [.c (.pv (.sl (List.map e_trans_State v3)))]), (32, [.c (.pv (.int .i64 (v3.length : Int)))]), (33, [.c (.pv (.int .i64 x2.1))])] (by kernel_rfl) ?_
        refine ops_nil ?_
        refine then_ ?_
        refine seq_ ?_
        refine cond_ (b := (decide (x2.1 < (v3.length : Int)))) rfl (fun k8 => ?_) (fun k8 => ?_)
        · have h := iteT h k8
          refine skip_ ?_
          refine then_ ?_
          refine seq_ ?_
          refine block_ ?_
          refine seq_ ?_
          refine region_ ?_
          refine R tbok 1 [35, 1, 3, 18, 19, 20, 31, 32, 33] [(35, [.c (.pv (.int .i64 x2.1))]), (1, [.c (.box 0 0)]), (3, [.c (.row 1)]), (18, [.c (.pv (.sl (List.map e_sl51 a0.At)))]), (19, [.c (.pv (.int .i64 (a0.At.length : Int)))]), (20, [.c (.pv (.int .i64 x1.1))]), (31, [.c (.pv (.sl (List.map e_trans_State v3)))]), (32, [.c (.pv (.int .i64 (v3.length : Int)))]), (33, [.c (.pv (.int .i64 x2.1))])] (by kernel_rfl) ?_
          obtain ⟨v7, k9, h⟩ := bindE h
          refine L rfl rfl (ia_sl (e := e_trans_State) (y := v7) rfl u51 ty47 rfl rfl k9 rfl) rfl ?_
          refine R tbok 1 [37, 35, 1, 3, 18, 19, 20, 31, 32, 33] [(37, [.agg (bs (e_trans_State v7))]), (35, [.c (.pv (.int .i64 x2.1))]), (1, [.c (.box 0 0)]), (3, [.c (.row 1)]), (18, [.c (.pv (.sl (List.map e_sl51 a0.At)))]), (19, [.c (.pv (.int .i64 (a0.At.length : Int)))]), (20, [.c (.pv (.int .i64 x1.1))]), (31, [.c (.pv (.sl (List.map e_trans_State v3)))]), (32, [.c (.pv (.int .i64 (v3.length : Int)))]), (33, [.c (.pv (.int .i64 x2.1))])] (by kernel_rfl) ?_
          refine B rfl rfl (bir_alloc rfl z47 rfl rfl) rfl rfl (.s (.s .z)) ?_
          refine R tbok 1 [6, 7, 37, 1, 3, 18, 19, 20, 31, 32, 33] [(6, [.c (.pv (.int .i64 x2.1))]), (7, [.c (.box 2 0)]), (37, [.agg (bs (e_trans_State v7))]), (1, [.c (.box 0 0)]), (3, [.c (.row 1)]), (18, [.c (.pv (.sl (List.map e_sl51 a0.At)))]), (19, [.c (.pv (.int .i64 (a0.At.length : Int)))]), (20, [.c (.pv (.int .i64 x1.1))]), (31, [.c (.pv (.sl (List.map e_trans_State v3)))]), (32, [.c (.pv (.int .i64 (v3.length : Int)))]), (33, [.c (.pv (.int .i64 x2.1))])] (by kernel_rfl) ?_
          refine S rfl rfl rfl ty47 (by decide) rfl rfl rfl rfl rfl (.all rfl) (.s (.s .z)) ?_
          refine ops_nil ?_
          refine then_ ?_
          refine drawn_ mixed ?_
          refine dl (t := 38) 0 [.c (.row 1)] rfl ?_
          refine dl (t := 39) 1 [.c (.pv (.int .i64 x2.1))] rfl ?_
          obtain ⟨v9, k11, h⟩ := bindE h
          refine dl (t := 40) 2 [.c (.pv (.str v9))] rfl ?_
          obtain ⟨v10, k12, h⟩ := bindE h
          refine dl (t := 41) 3 [.c (.pv (.str v10))] rfl ?_
          obtain ⟨v11, k13, h⟩ := bindE h
          refine dl (t := 42) 4 [.c (.pv (.str v11))] rfl ?_
          refine dl (t := 43) 5 [.agg (bs (e_trans_State v7))] rfl ?_
          obtain ⟨v13, k15, h⟩ := bindE h
          refine dl (t := 44) 6 [.c (.pv (.str v13))] rfl ?_
          obtain ⟨v14, k16, h⟩ := bindE h
          refine dl (t := 45) 7 [.c (.pv (.str v14))] rfl ?_
          refine dl (t := 46) 8 [.c (.pv (.sl (List.map e_str [v14])))] rfl ?_
          obtain ⟨v15, k17, h⟩ := bindE h
          refine d_append (env1 := [(6, [.c (.pv (.int .i64 x2.1))]), (7, [.c (.box 2 0)]), (37, [.agg (bs (e_trans_State v7))]), (1, [.c (.box 0 0)]), (3, [.c (.any)]), (18, [.c (.pv (.sl (List.map e_sl51 a0.At)))]), (19, [.c (.pv (.int .i64 (a0.At.length : Int)))]), (20, [.c (.pv (.int .i64 x1.1))]), (31, [.c (.pv (.sl (List.map e_trans_State v3)))]), (32, [.c (.pv (.int .i64 (v3.length : Int)))]), (33, [.c (.pv (.int .i64 x2.1))])]) (T1 := [⟨8, some 46, [.c (.pv (.sl (List.map e_str [v14])))], .light⟩, ⟨7, some 45, [.c (.pv (.str v14))], .light⟩, ⟨6, some 44, [.c (.pv (.str v13))], .light⟩, ⟨5, some 43, [.agg (bs (e_trans_State v7))], .light⟩, ⟨4, some 42, [.c (.pv (.str v11))], .light⟩, ⟨3, some 41, [.c (.pv (.str v10))], .light⟩, ⟨2, some 40, [.c (.pv (.str v9))], .light⟩, ⟨1, some 39, [.c (.pv (.int .i64 x2.1))], .light⟩, ⟨0, some 38, [.c (.any)], .light⟩]) (st' := [some (.box true 55 [.pv (.sl (List.map e_sl51 a0.At)), .pv (.sl (List.map e_queue_Elem a0.Elems)), .pv (.sl (List.map e_fix_Alarm a0.Alarms)), .pv (.int .i64 a0.Steps)]), some (.row true true 9 1 (List.map e_str v15)), some (.box true 47 (bs (e_trans_State v7)))]) (wm [0, 0, 2, 6, 14, 0, 38, 126, 254, 511, 1023]) 9 rfl (by kernel_rfl) (by kernel_rfl) (by kernel_rfl) (by kernel_rfl) (by kernel_rfl) (gi0 rfl) (oL [] rfl (by kernel_rfl) (fl_slice (List.map e_str [v14]) rfl sl70 rfl rfl rfl rfl rfl rfl rfl) (oL [] rfl (by kernel_rfl) (fl_lt (cat_ rfl rfl rfl k16)) (oL [] rfl (by kernel_rfl) (fl_call rfl Tryd.call33 rfl (by kernel_rfl) (by kernel_rfl) (report_state_meets k15)) (oE tbok [] 1 (by kernel_rfl) (oL [] rfl (by kernel_rfl) (fl_lt (cat_ rfl rfl rfl k13)) (oL [] rfl (by kernel_rfl) (fl_lt (cat_ rfl rfl rfl k12)) (oL [] rfl (by kernel_rfl) (fl_call rfl Tryd.call29 rfl (by kernel_rfl) (by kernel_rfl) (itoa_meets k11)) (oE tbok [] 2 (by kernel_rfl) trivial)))))))) rfl rfl rfl u70 te9 (by decide) rfl rfl rfl (.sl _) (ys := List.map e_str [v14]) rfl (app_len k17) rfl rfl (app_set (e := e_str) k17 (by rfl)) ?_
          refine dl (t := 3) 10 [.c (.row 1)] rfl ?_
          refine d_endS (env2 := [(3, [.c (.row 1)]), (1, [.c (.box 0 0)]), (18, [.c (.pv (.sl (List.map e_sl51 a0.At)))]), (19, [.c (.pv (.int .i64 (a0.At.length : Int)))]), (20, [.c (.pv (.int .i64 x1.1))]), (31, [.c (.pv (.sl (List.map e_trans_State v3)))]), (32, [.c (.pv (.int .i64 (v3.length : Int)))]), (33, [.c (.pv (.int .i64 x2.1))])]) (wm [0, 0, 2, 6, 14, 0, 38, 126, 254, 511, 1023]) (by kernel_rfl) (by kernel_rfl) (by kernel_rfl) (oE tbok [] 1 (by kernel_rfl) (oN 10 (by kernel_rfl) trivial)) (sub_cons rfl (sub_cons rfl (sub_cons rfl (sub_cons rfl (sub_cons rfl (sub_cons rfl (sub_cons rfl (sub_cons rfl sub_nil)))))))) (wB wT) ?_
          refine bN ?_
          refine then_ ?_
          refine region_ ?_
          refine R tbok 2 [33, 3, 1, 18, 19, 20, 31, 32] [(33, [.c (.pv (.int .i64 (IntKind.i64.wrap (x2.1 + 1))))]), (3, [.c (.row 1)]), (1, [.c (.box 0 0)]), (18, [.c (.pv (.sl (List.map e_sl51 a0.At)))]), (19, [.c (.pv (.int .i64 (a0.At.length : Int)))]), (20, [.c (.pv (.int .i64 x1.1))]), (31, [.c (.pv (.sl (List.map e_trans_State v3)))]), (32, [.c (.pv (.int .i64 (v3.length : Int)))])] (by kernel_rfl) ?_
          refine ops_nil ?_
          obtain rfl := retE h
          refine lN ?_
          refine w_sub (env' := [(1, [.c (.box 0 0)]), (3, [.c (.row 1)]), (18, [.c (.pv (.sl (List.map e_sl51 a0.At)))]), (19, [.c (.pv (.int .i64 (a0.At.length : Int)))]), (20, [.c (.pv (.int .i64 x1.1))]), (31, [.c (.pv (.sl (List.map e_trans_State v3)))]), (32, [.c (.pv (.int .i64 (v3.length : Int)))]), (33, [.c (.pv (.int .i64 (IntKind.i64.wrap (x2.1 + 1))))])]) (sub_cons rfl (sub_cons rfl (sub_cons rfl (sub_cons rfl (sub_cons rfl (sub_cons rfl (sub_cons rfl (sub_cons rfl sub_nil)))))))) ?_
          refine w_cut 2 rfl rfl rfl rfl ?_
          exact wkE (by kernel_rfl) (by kernel_rfl)
        · have h := iteF h k8
          refine exit_ ?_
          refine tX ?_
          obtain rfl := retE h
          refine lX ?_
          refine w_sub (env' := [(1, [.c (.box 0 0)]), (3, [.c (.row 1)]), (18, [.c (.pv (.sl (List.map e_sl51 a0.At)))]), (19, [.c (.pv (.int .i64 (a0.At.length : Int)))]), (20, [.c (.pv (.int .i64 x1.1))])]) (sub_cons rfl (sub_cons rfl (sub_cons rfl (sub_cons rfl (sub_cons rfl sub_nil))))) ?_
          exact wkE (by kernel_rfl) (by kernel_rfl)
      · cases h
      · have h := elimR h
        refine bN ?_
        refine then_ ?_
        refine region_ ?_
        refine R tbok 2 [20, 1, 3, 18, 19] [(20, [.c (.pv (.int .i64 (IntKind.i64.wrap (x1.1 + 1))))]), (1, [.c (.box 0 0)]), (3, [.c (.row 1)]), (18, [.c (.pv (.sl (List.map e_sl51 a0.At)))]), (19, [.c (.pv (.int .i64 (a0.At.length : Int)))])] (by kernel_rfl) ?_
        refine ops_nil ?_
        obtain rfl := retE h
        refine lN ?_
        refine w_sub (env' := [(1, [.c (.box 0 0)]), (3, [.c (.row 1)]), (18, [.c (.pv (.sl (List.map e_sl51 a0.At)))]), (19, [.c (.pv (.int .i64 (a0.At.length : Int)))]), (20, [.c (.pv (.int .i64 (IntKind.i64.wrap (x1.1 + 1))))])]) (sub_cons rfl (sub_cons rfl (sub_cons rfl (sub_cons rfl (sub_cons rfl sub_nil))))) ?_
        exact wkE (by kernel_rfl) (by kernel_rfl)
    · have h := iteF h k3
      refine exit_ ?_
      refine tX ?_
      obtain rfl := retE h
      refine lX ?_
      refine w_sub (env' := [(1, [.c (.box 0 0)]), (3, [.c (.row 1)])]) (sub_cons rfl (sub_cons rfl sub_nil)) ?_
      exact wkE (by kernel_rfl) (by kernel_rfl)
  · cases h
  · have h := elimR h
    refine then_ ?_
    refine seq_ ?_
    refine seq_ ?_
    refine region_ ?_
    refine R tbok 2 [51, 1, 3] [(51, [.c (.pv (.sl (List.map e_queue_Elem a0.Elems)))]), (1, [.c (.box 0 0)]), (3, [.c (.row 1)])] (by kernel_rfl) ?_
    refine L rfl rfl (len_sl (e := e_queue_Elem) rfl u53 rfl) rfl ?_
    refine R tbok 1 [53, 52, 51, 1, 3] [(53, [.c (.pv (.int .i64 0))]), (52, [.c (.pv (.int .i64 (a0.Elems.length : Int)))]), (51, [.c (.pv (.sl (List.map e_queue_Elem a0.Elems)))]), (1, [.c (.box 0 0)]), (3, [.c (.row 1)])] (by kernel_rfl) ?_
    refine ops_nil ?_
    refine then_ ?_
    refine lp_ (Qr := RW Tryd.prog GG Tryd.f20 0 r_report_Text o_report_Text) (report_Text_l3 a0) (fun (x3 : (Int × (List ByteArray))) => (⟨91, 0, [(1, [.c (.box 0 0)]), (3, [.c (.row 1)]), (51, [.c (.pv (.sl (List.map e_queue_Elem a0.Elems)))]), (52, [.c (.pv (.int .i64 (a0.Elems.length : Int)))]), (53, [.c (.pv (.int .i64 x3.1))])], [some (.box true 55 [.pv (.sl (List.map e_sl51 a0.At)), .pv (.sl (List.map e_queue_Elem a0.Elems)), .pv (.sl (List.map e_fix_Alarm a0.Alarms)), .pv (.int .i64 a0.Steps)]), some (.row true true 9 1 (List.map e_str x3.2))]⟩ : Sx)) (fun (j3 : (List ByteArray)) => (⟨91, 0, [(1, [.c (.box 0 0)]), (3, [.c (.row 1)])], [some (.box true 55 [.pv (.sl (List.map e_sl51 a0.At)), .pv (.sl (List.map e_queue_Elem a0.Elems)), .pv (.sl (List.map e_fix_Alarm a0.Alarms)), .pv (.int .i64 a0.Steps)]), some (.row true true 9 1 (List.map e_str j3))]⟩ : Sx)) (0, j1) RW.only h wT ?_ (fun x3 o h => ?_) (fun r h s' hs => ?_) (fun j3 h => ?_)
    · refine w_sub (env' := [(1, [.c (.box 0 0)]), (3, [.c (.row 1)]), (51, [.c (.pv (.sl (List.map e_queue_Elem a0.Elems)))]), (52, [.c (.pv (.int .i64 (a0.Elems.length : Int)))]), (53, [.c (.pv (.int .i64 0))])]) (sub_cons rfl (sub_cons rfl (sub_cons rfl (sub_cons rfl (sub_cons rfl sub_nil))))) ?_
      exact wkE (by kernel_rfl) (by kernel_rfl)
    · unfold report_Text_l3 at h
      refine seq_ ?_
      refine region_ ?_
      refine R tbok 1 [54, 1, 3, 51, 52, 53] [(54, [.c (.pv (.bool (decide (x3.1 < (a0.Elems.length : Int)))))]), (1, [.c (.box 0 0)]), (3, [.c (.row 1)]), (51, [.c (.pv (.sl (List.map e_queue_Elem a0.Elems)))]), (52, [.c (.pv (.int .i64 (a0.Elems.length : Int)))]), (53, [.c (.pv (.int .i64 x3.1))])] (by kernel_rfl) ?_
      refine ops_nil ?_
      refine then_ ?_
      refine seq_ ?_
      refine cond_ (b := (decide (x3.1 < (a0.Elems.length : Int)))) rfl (fun k18 => ?_) (fun k18 => ?_)
      · have h := iteT h k18
        refine skip_ ?_
        refine then_ ?_
        refine seq_ ?_
        refine block_ ?_
        refine seq_ ?_
        refine region_ ?_
        refine R tbok 1 [55, 1, 3, 51, 52, 53] [(55, [.c (.pv (.int .i64 x3.1))]), (1, [.c (.box 0 0)]), (3, [.c (.row 1)]), (51, [.c (.pv (.sl (List.map e_queue_Elem a0.Elems)))]), (52, [.c (.pv (.int .i64 (a0.Elems.length : Int)))]), (53, [.c (.pv (.int .i64 x3.1))])] (by kernel_rfl) ?_
        obtain ⟨v16, k19, h⟩ := bindE h
        refine L rfl rfl (ia_sl (e := e_queue_Elem) (y := v16) rfl u53 ty50 rfl rfl k19 rfl) rfl ?_
        refine R tbok 1 [57, 55, 1, 3, 51, 52, 53] [(57, [.agg [.pv (.int .i64 v16.Len.Lo), .pv (.int .i64 v16.Len.Hi), .pv (.sl (List.map e_itv_Itv v16.Vals))]]), (55, [.c (.pv (.int .i64 x3.1))]), (1, [.c (.box 0 0)]), (3, [.c (.row 1)]), (51, [.c (.pv (.sl (List.map e_queue_Elem a0.Elems)))]), (52, [.c (.pv (.int .i64 (a0.Elems.length : Int)))]), (53, [.c (.pv (.int .i64 x3.1))])] (by kernel_rfl) ?_
        refine B rfl rfl (bir_alloc rfl z50 rfl rfl) rfl rfl (.s (.s .z)) ?_
        refine R tbok 1 [8, 9, 57, 1, 3, 51, 52, 53] [(8, [.c (.pv (.int .i64 x3.1))]), (9, [.c (.box 2 0)]), (57, [.agg [.pv (.int .i64 v16.Len.Lo), .pv (.int .i64 v16.Len.Hi), .pv (.sl (List.map e_itv_Itv v16.Vals))]]), (1, [.c (.box 0 0)]), (3, [.c (.row 1)]), (51, [.c (.pv (.sl (List.map e_queue_Elem a0.Elems)))]), (52, [.c (.pv (.int .i64 (a0.Elems.length : Int)))]), (53, [.c (.pv (.int .i64 x3.1))])] (by kernel_rfl) ?_
        refine S rfl rfl rfl ty50 (by decide) rfl rfl rfl rfl rfl (.all rfl) (.s (.s .z)) ?_
        refine ops_nil ?_
        refine then_ ?_
        refine drawn_ mixed ?_
        refine dl (t := 58) 0 [.c (.row 1)] rfl ?_
        refine dl (t := 59) 1 [.c (.pv (.int .i64 x3.1))] rfl ?_
        obtain ⟨v18, k21, h⟩ := bindE h
        refine dl (t := 60) 2 [.c (.pv (.str v18))] rfl ?_
        obtain ⟨v19, k22, h⟩ := bindE h
        refine dl (t := 61) 3 [.c (.pv (.str v19))] rfl ?_
        obtain ⟨v20, k23, h⟩ := bindE h
        refine dl (t := 62) 4 [.c (.pv (.str v20))] rfl ?_
        refine dl (t := 63) 5 [.agg [.pv (.int .i64 v16.Len.Lo), .pv (.int .i64 v16.Len.Hi), .pv (.sl (List.map e_itv_Itv v16.Vals))]] rfl ?_
        obtain ⟨v22, k25, h⟩ := bindE h
        refine dl (t := 64) 6 [.c (.pv (.str v22))] rfl ?_
        obtain ⟨v23, k26, h⟩ := bindE h
        refine dl (t := 65) 7 [.c (.pv (.str v23))] rfl ?_
        refine dl (t := 66) 8 [.c (.pv (.sl (List.map e_str [v23])))] rfl ?_
        obtain ⟨v24, k27, h⟩ := bindE h
        refine d_append (env1 := [(8, [.c (.pv (.int .i64 x3.1))]), (9, [.c (.box 2 0)]), (57, [.agg [.pv (.int .i64 v16.Len.Lo), .pv (.int .i64 v16.Len.Hi), .pv (.sl (List.map e_itv_Itv v16.Vals))]]), (1, [.c (.box 0 0)]), (3, [.c (.any)]), (51, [.c (.pv (.sl (List.map e_queue_Elem a0.Elems)))]), (52, [.c (.pv (.int .i64 (a0.Elems.length : Int)))]), (53, [.c (.pv (.int .i64 x3.1))])]) (T1 := [⟨8, some 66, [.c (.pv (.sl (List.map e_str [v23])))], .light⟩, ⟨7, some 65, [.c (.pv (.str v23))], .light⟩, ⟨6, some 64, [.c (.pv (.str v22))], .light⟩, ⟨5, some 63, [.agg [.pv (.int .i64 v16.Len.Lo), .pv (.int .i64 v16.Len.Hi), .pv (.sl (List.map e_itv_Itv v16.Vals))]], .light⟩, ⟨4, some 62, [.c (.pv (.str v20))], .light⟩, ⟨3, some 61, [.c (.pv (.str v19))], .light⟩, ⟨2, some 60, [.c (.pv (.str v18))], .light⟩, ⟨1, some 59, [.c (.pv (.int .i64 x3.1))], .light⟩, ⟨0, some 58, [.c (.any)], .light⟩]) (st' := [some (.box true 55 [.pv (.sl (List.map e_sl51 a0.At)), .pv (.sl (List.map e_queue_Elem a0.Elems)), .pv (.sl (List.map e_fix_Alarm a0.Alarms)), .pv (.int .i64 a0.Steps)]), some (.row true true 9 1 (List.map e_str v24)), some (.box true 50 [.pv (.int .i64 v16.Len.Lo), .pv (.int .i64 v16.Len.Hi), .pv (.sl (List.map e_itv_Itv v16.Vals))])]) (wm [0, 0, 2, 6, 14, 0, 38, 126, 254, 511, 1023]) 9 rfl (by kernel_rfl) (by kernel_rfl) (by kernel_rfl) (by kernel_rfl) (by kernel_rfl) (gi0 rfl) (oL [] rfl (by kernel_rfl) (fl_slice (List.map e_str [v23]) rfl sl70 rfl rfl rfl rfl rfl rfl rfl) (oL [] rfl (by kernel_rfl) (fl_lt (cat_ rfl rfl rfl k26)) (oL [] rfl (by kernel_rfl) (fl_call rfl Tryd.call34 rfl (by kernel_rfl) (by kernel_rfl) (report_channel_meets k25)) (oE tbok [] 1 (by kernel_rfl) (oL [] rfl (by kernel_rfl) (fl_lt (cat_ rfl rfl rfl k23)) (oL [] rfl (by kernel_rfl) (fl_lt (cat_ rfl rfl rfl k22)) (oL [] rfl (by kernel_rfl) (fl_call rfl Tryd.call29 rfl (by kernel_rfl) (by kernel_rfl) (itoa_meets k21)) (oE tbok [] 2 (by kernel_rfl) trivial)))))))) rfl rfl rfl u70 te9 (by decide) rfl rfl rfl (.sl _) (ys := List.map e_str [v23]) rfl (app_len k27) rfl rfl (app_set (e := e_str) k27 (by rfl)) ?_
        refine dl (t := 3) 10 [.c (.row 1)] rfl ?_
        refine d_endS (env2 := [(3, [.c (.row 1)]), (1, [.c (.box 0 0)]), (51, [.c (.pv (.sl (List.map e_queue_Elem a0.Elems)))]), (52, [.c (.pv (.int .i64 (a0.Elems.length : Int)))]), (53, [.c (.pv (.int .i64 x3.1))])]) (wm [0, 0, 2, 6, 14, 0, 38, 126, 254, 511, 1023]) (by kernel_rfl) (by kernel_rfl) (by kernel_rfl) (oE tbok [] 1 (by kernel_rfl) (oN 10 (by kernel_rfl) trivial)) (sub_cons rfl (sub_cons rfl (sub_cons rfl (sub_cons rfl (sub_cons rfl sub_nil))))) (wB wT) ?_
        refine bN ?_
        refine then_ ?_
        refine region_ ?_
        refine R tbok 2 [53, 3, 1, 51, 52] [(53, [.c (.pv (.int .i64 (IntKind.i64.wrap (x3.1 + 1))))]), (3, [.c (.row 1)]), (1, [.c (.box 0 0)]), (51, [.c (.pv (.sl (List.map e_queue_Elem a0.Elems)))]), (52, [.c (.pv (.int .i64 (a0.Elems.length : Int)))])] (by kernel_rfl) ?_
        refine ops_nil ?_
        obtain rfl := retE h
        refine lN ?_
        refine w_sub (env' := [(1, [.c (.box 0 0)]), (3, [.c (.row 1)]), (51, [.c (.pv (.sl (List.map e_queue_Elem a0.Elems)))]), (52, [.c (.pv (.int .i64 (a0.Elems.length : Int)))]), (53, [.c (.pv (.int .i64 (IntKind.i64.wrap (x3.1 + 1))))])]) (sub_cons rfl (sub_cons rfl (sub_cons rfl (sub_cons rfl (sub_cons rfl sub_nil))))) ?_
        refine w_cut 2 rfl rfl rfl rfl ?_
        exact wkE (by kernel_rfl) (by kernel_rfl)
      · have h := iteF h k18
        refine exit_ ?_
        refine tX ?_
        obtain rfl := retE h
        refine lX ?_
        refine w_sub (env' := [(1, [.c (.box 0 0)]), (3, [.c (.row 1)])]) (sub_cons rfl (sub_cons rfl sub_nil)) ?_
        exact wkE (by kernel_rfl) (by kernel_rfl)
    · cases h
    · have h := elimR h
      refine then_ ?_
      refine seq_ ?_
      refine seq_ ?_
      refine region_ ?_
      refine R tbok 2 [70, 1, 3] [(70, [.c (.pv (.sl (List.map e_fix_Alarm a0.Alarms)))]), (1, [.c (.box 0 0)]), (3, [.c (.row 1)])] (by kernel_rfl) ?_
      refine L rfl rfl (len_sl (e := e_fix_Alarm) rfl u35 rfl) rfl ?_
      refine R tbok 1 [72, 71, 70, 1, 3] [(72, [.c (.pv (.int .i64 0))]), (71, [.c (.pv (.int .i64 (a0.Alarms.length : Int)))]), (70, [.c (.pv (.sl (List.map e_fix_Alarm a0.Alarms)))]), (1, [.c (.box 0 0)]), (3, [.c (.row 1)])] (by kernel_rfl) ?_
      refine ops_nil ?_
      refine then_ ?_
      refine lp_ (Qr := RW Tryd.prog GG Tryd.f20 0 r_report_Text o_report_Text) (report_Text_l4 a0) (fun (x4 : (Int × (List ByteArray))) => (⟨91, 0, [(1, [.c (.box 0 0)]), (3, [.c (.row 1)]), (70, [.c (.pv (.sl (List.map e_fix_Alarm a0.Alarms)))]), (71, [.c (.pv (.int .i64 (a0.Alarms.length : Int)))]), (72, [.c (.pv (.int .i64 x4.1))])], [some (.box true 55 [.pv (.sl (List.map e_sl51 a0.At)), .pv (.sl (List.map e_queue_Elem a0.Elems)), .pv (.sl (List.map e_fix_Alarm a0.Alarms)), .pv (.int .i64 a0.Steps)]), some (.row true true 9 1 (List.map e_str x4.2))]⟩ : Sx)) (fun (j4 : (List ByteArray)) => (⟨91, 0, [(1, [.c (.box 0 0)]), (3, [.c (.row 1)])], [some (.box true 55 [.pv (.sl (List.map e_sl51 a0.At)), .pv (.sl (List.map e_queue_Elem a0.Elems)), .pv (.sl (List.map e_fix_Alarm a0.Alarms)), .pv (.int .i64 a0.Steps)]), some (.row true true 9 1 (List.map e_str j4))]⟩ : Sx)) (0, j3) RW.only h wT ?_ (fun x4 o h => ?_) (fun r h s' hs => ?_) (fun j4 h => ?_)
      · refine w_sub (env' := [(1, [.c (.box 0 0)]), (3, [.c (.row 1)]), (70, [.c (.pv (.sl (List.map e_fix_Alarm a0.Alarms)))]), (71, [.c (.pv (.int .i64 (a0.Alarms.length : Int)))]), (72, [.c (.pv (.int .i64 0))])]) (sub_cons rfl (sub_cons rfl (sub_cons rfl (sub_cons rfl (sub_cons rfl sub_nil))))) ?_
        exact wkE (by kernel_rfl) (by kernel_rfl)
      · unfold report_Text_l4 at h
        refine seq_ ?_
        refine region_ ?_
        refine R tbok 1 [73, 1, 3, 70, 71, 72] [(73, [.c (.pv (.bool (decide (x4.1 < (a0.Alarms.length : Int)))))]), (1, [.c (.box 0 0)]), (3, [.c (.row 1)]), (70, [.c (.pv (.sl (List.map e_fix_Alarm a0.Alarms)))]), (71, [.c (.pv (.int .i64 (a0.Alarms.length : Int)))]), (72, [.c (.pv (.int .i64 x4.1))])] (by kernel_rfl) ?_
        refine ops_nil ?_
        refine then_ ?_
        refine seq_ ?_
        refine cond_ (b := (decide (x4.1 < (a0.Alarms.length : Int)))) rfl (fun k28 => ?_) (fun k28 => ?_)
        · have h := iteT h k28
          refine skip_ ?_
          refine then_ ?_
          refine seq_ ?_
          refine block_ ?_
          refine seq_ ?_
          refine region_ ?_
          obtain ⟨v25, k29, h⟩ := bindE h
          refine L rfl rfl (ia_sl (e := e_fix_Alarm) (y := v25) rfl u35 ty25 rfl rfl k29 rfl) rfl ?_
          refine R tbok 1 [75, 1, 3, 70, 71, 72] [(75, [.agg [.pv (.int .i64 v25.Proc), .pv (.int .i64 v25.Edge), .pv (.int .i64 v25.Kind)]]), (1, [.c (.box 0 0)]), (3, [.c (.row 1)]), (70, [.c (.pv (.sl (List.map e_fix_Alarm a0.Alarms)))]), (71, [.c (.pv (.int .i64 (a0.Alarms.length : Int)))]), (72, [.c (.pv (.int .i64 x4.1))])] (by kernel_rfl) ?_
          refine B rfl rfl (bir_alloc rfl z25 rfl rfl) rfl rfl (.s (.s .z)) ?_
          refine S rfl rfl rfl ty25 (by decide) rfl rfl rfl rfl rfl (.all rfl) (.s (.s .z)) ?_
          refine ops_nil ?_
          refine then_ ?_
          refine region_ ?_
          refine R tbok 2 [77, 76, 1, 3, 70, 71, 72] [(77, [.agg [.pv (.int .i64 v25.Proc), .pv (.int .i64 v25.Edge), .pv (.int .i64 v25.Kind)]]), (76, [.c (.row 1)]), (1, [.c (.box 0 0)]), (3, [.c (.row 1)]), (70, [.c (.pv (.sl (List.map e_fix_Alarm a0.Alarms)))]), (71, [.c (.pv (.int .i64 (a0.Alarms.length : Int)))]), (72, [.c (.pv (.int .i64 x4.1))])] (by kernel_rfl) ?_
          obtain ⟨v26, k30, h⟩ := bindE h
          refine C rfl rfl (fl_call rfl Tryd.call17 rfl (by kernel_rfl) (by kernel_rfl) (report_Alarm_meets k30)) rfl ?_
          refine C rfl rfl (fl_slice (List.map e_str [v26]) rfl sl70 rfl rfl rfl rfl rfl rfl rfl) rfl ?_
          obtain ⟨v27, k31, h⟩ := bindE h
          refine app_ (e := e_str) (M := [v26]) (env' := [(79, [.c (.pv (.sl (List.map e_str [v26])))]), (78, [.c (.pv (.str v26))]), (77, [.agg [.pv (.int .i64 v25.Proc), .pv (.int .i64 v25.Edge), .pv (.int .i64 v25.Kind)]]), (76, [.c (.any)]), (1, [.c (.box 0 0)]), (3, [.c (.any)]), (70, [.c (.pv (.sl (List.map e_fix_Alarm a0.Alarms)))]), (71, [.c (.pv (.int .i64 (a0.Alarms.length : Int)))]), (72, [.c (.pv (.int .i64 x4.1))])]) (st' := [some (.box true 55 [.pv (.sl (List.map e_sl51 a0.At)), .pv (.sl (List.map e_queue_Elem a0.Elems)), .pv (.sl (List.map e_fix_Alarm a0.Alarms)), .pv (.int .i64 a0.Steps)]), some (.row true true 9 1 (List.map e_str v27)), some (.box true 25 [.pv (.int .i64 v25.Proc), .pv (.int .i64 v25.Edge), .pv (.int .i64 v25.Kind)])]) rfl rfl rfl rfl u70 te9 (by decide) rfl rfl rfl (.sl _) (fun _ => rfl) k31 rfl rfl ?_
          refine R tbok 1 [3, 1, 70, 71, 72] [(3, [.c (.row 1)]), (1, [.c (.box 0 0)]), (70, [.c (.pv (.sl (List.map e_fix_Alarm a0.Alarms)))]), (71, [.c (.pv (.int .i64 (a0.Alarms.length : Int)))]), (72, [.c (.pv (.int .i64 x4.1))])] (by kernel_rfl) ?_
          refine ops_nil ?_
          refine bN ?_
          refine then_ ?_
          refine region_ ?_
          refine R tbok 2 [72, 3, 1, 70, 71] [(72, [.c (.pv (.int .i64 (IntKind.i64.wrap (x4.1 + 1))))]), (3, [.c (.row 1)]), (1, [.c (.box 0 0)]), (70, [.c (.pv (.sl (List.map e_fix_Alarm a0.Alarms)))]), (71, [.c (.pv (.int .i64 (a0.Alarms.length : Int)))])] (by kernel_rfl) ?_
          refine ops_nil ?_
          obtain rfl := retE h
          refine lN ?_
          refine w_sub (env' := [(1, [.c (.box 0 0)]), (3, [.c (.row 1)]), (70, [.c (.pv (.sl (List.map e_fix_Alarm a0.Alarms)))]), (71, [.c (.pv (.int .i64 (a0.Alarms.length : Int)))]), (72, [.c (.pv (.int .i64 (IntKind.i64.wrap (x4.1 + 1))))])]) (sub_cons rfl (sub_cons rfl (sub_cons rfl (sub_cons rfl (sub_cons rfl sub_nil))))) ?_
          refine w_cut 2 rfl rfl rfl rfl ?_
          exact wkE (by kernel_rfl) (by kernel_rfl)
        · have h := iteF h k28
          refine exit_ ?_
          refine tX ?_
          obtain rfl := retE h
          refine lX ?_
          refine w_sub (env' := [(1, [.c (.box 0 0)]), (3, [.c (.row 1)])]) (sub_cons rfl (sub_cons rfl sub_nil)) ?_
          exact wkE (by kernel_rfl) (by kernel_rfl)
      · cases h
      · have h := elimR h
        refine then_ ?_
        refine seq_ ?_
        refine region_ ?_
        refine R tbok 3 [84, 82, 3] [(84, [.c (.pv (.sl (List.map e_fix_Alarm a0.Alarms)))]), (82, [.c (.row 1)]), (3, [.c (.row 1)])] (by kernel_rfl) ?_
        refine L rfl rfl (len_sl (e := e_fix_Alarm) rfl u35 rfl) rfl ?_
        obtain ⟨v28, k32, h⟩ := bindE h
        refine C rfl rfl (fl_call rfl Tryd.call35 rfl (by kernel_rfl) (by kernel_rfl) (report_last_meets k32)) rfl ?_
        refine C rfl rfl (fl_slice (List.map e_str [v28, (ByteArray.mk #[])]) rfl sl70 rfl rfl rfl rfl rfl rfl rfl) rfl ?_
        obtain ⟨v29, k33, h⟩ := bindE h
        refine app_ (e := e_str) (M := [v28, (ByteArray.mk #[])]) (env' := [(87, [.c (.pv (.sl (List.map e_str [v28, (ByteArray.mk #[])])))]), (86, [.c (.pv (.str v28))]), (85, [.c (.pv (.int .i64 (a0.Alarms.length : Int)))]), (84, [.c (.pv (.sl (List.map e_fix_Alarm a0.Alarms)))]), (82, [.c (.any)]), (3, [.c (.any)])]) (st' := [some (.box true 55 [.pv (.sl (List.map e_sl51 a0.At)), .pv (.sl (List.map e_queue_Elem a0.Elems)), .pv (.sl (List.map e_fix_Alarm a0.Alarms)), .pv (.int .i64 a0.Steps)]), some (.row true true 9 1 (List.map e_str v29))]) rfl rfl rfl rfl u70 te9 (by decide) rfl rfl rfl (.sl _) (fun _ => rfl) k33 rfl rfl ?_
        refine R tbok 1 [3] [(3, [.c (.row 1)])] (by kernel_rfl) ?_
        refine ops_nil ?_
        refine then_ ?_
        refine seq_ ?_
        refine region_ ?_
        refine R tbok 1 [89] [(89, [.c (.row 1)])] (by kernel_rfl) ?_
        obtain ⟨v30, k34, h⟩ := bindE h
        refine C rfl rfl (fl_callB rfl Tryd.call36 rfl (by kernel_rfl) (by kernel_rfl) rfl (join_meets k34)) rfl ?_
        refine R tbok 1 [2] [(2, [.c (.pv (.str v30))])] (by kernel_rfl) ?_
        refine ops_nil ?_
        refine then_ ?_
        refine ret_ ?_
        obtain rfl := retE h
        refine rwr (rw_ (.tmp rfl .nil) ?_)
        refine w_none 0 .z ?_
        refine w_none 1 (.s .z) ?_
        refine w_cut 0 rfl rfl rfl rfl ?_
        exact wkE (by kernel_rfl) (by kernel_rfl)

theorem l17_says_meets {r : Bool} (h : l17_says = some r) : MeetsV Tryd.prog GG 14 [] [.c (.pv (.bool r))] := by
  refine MeetsS.toV (meetsW_of (st0 := []) (N := 19) r_l17_says o_l17_says r Tryd.func14 rfl rfl rfl (by dsimp only [argEnv]) rfl ?_) rfl
  unfold l17_says at h
  refine seq_ ?_
  refine region_ ?_
  refine R tbok 1 [0] [(0, [.c (.pv (.bool false))])] (by kernel_rfl) ?_
  refine ops_nil ?_
  refine then_ ?_
  refine seq_ ?_
  refine jn_ (fun (j1 : Bool) => (⟨19, 0, [(0, [.c (.pv (.bool j1))])], []⟩ : Sx)) h wT (fun o h => ?_) (fun j1 h => ?_)
  · refine region_ ?_
    obtain ⟨v1, k1, h⟩ := bindE h
    refine C rfl rfl (fl_call rfl Tryd.call19 rfl (by kernel_rfl) (by kernel_rfl) (itv_Of_meets k1)) rfl ?_
    obtain ⟨v2, k2, h⟩ := bindE h
    refine C rfl rfl (fl_call rfl Tryd.call15 rfl (by kernel_rfl) (by kernel_rfl) (report_Itv_meets k2)) rfl ?_
    refine R tbok 2 [4, 0] [(4, [.c (.pv (.bool (v2.toList == (ByteArray.mk #[45, 50, 32, 116, 111, 32, 55]).toList)))]), (0, [.c (.pv (.bool false))])] (by kernel_rfl) ?_
    refine (tf (v2.toList == (ByteArray.mk #[45, 50, 32, 116, 111, 32, 55]).toList)).elim (fun k3 => ?_) (fun k3 => ?_)
    · have h := iteT h k3
      obtain ⟨v3, k4, h⟩ := bindE h
      refine Hg rfl rfl rfl k3 rfl rfl (op_fl rfl rfl (fl_call rfl Tryd.call27 rfl (by kernel_rfl) (by kernel_rfl) (itv_None_meets k4)) ?_)
      obtain ⟨v4, k5, h⟩ := bindE h
      refine Hg rfl rfl rfl k3 rfl rfl (op_fl rfl rfl (fl_call rfl Tryd.call15 rfl (by kernel_rfl) (by kernel_rfl) (report_Itv_meets k5)) ?_)
      refine Lg rfl rfl rfl k3 rfl (lt_str rfl rfl rfl rfl) rfl ?_
      refine L rfl rfl (lt_pickT rfl rfl k3 rfl) rfl ?_
      refine R tbok 1 [9, 0] [(9, [.c (.pv (.bool (v4.toList == (ByteArray.mk #[110, 111, 110, 101]).toList)))]), (0, [.c (.pv (.bool false))])] (by kernel_rfl) ?_
      refine (tf (v4.toList == (ByteArray.mk #[110, 111, 110, 101]).toList)).elim (fun k6 => ?_) (fun k6 => ?_)
      · have h := iteT h k6
        refine Lg rfl rfl rfl k6 rfl (lt_build (cs := [.pv (.int .i64 0), .pv (.int .i64 3), .pv (.int .i64 2)]) rfl st25 rfl (by kernel_rfl)) rfl ?_
        obtain ⟨v5, k7, h⟩ := bindE h
        refine Hg rfl rfl rfl k6 rfl rfl (op_fl rfl rfl (fl_call rfl Tryd.call17 rfl (by kernel_rfl) (by kernel_rfl) (report_Alarm_meets k7)) ?_)
        refine Lg rfl rfl rfl k6 rfl (lt_str rfl rfl rfl rfl) rfl ?_
        refine L rfl rfl (lt_pickT rfl rfl k6 rfl) rfl ?_
        refine R tbok 1 [14, 0] [(14, [.c (.pv (.bool (v5.toList == (ByteArray.mk #[111, 118, 101, 114, 102, 108, 111, 119, 32, 97, 116, 32, 112, 114, 111, 99, 101, 115, 115, 32, 48, 32, 101, 100, 103, 101, 32, 51]).toList)))]), (0, [.c (.pv (.bool false))])] (by kernel_rfl) ?_
        refine (tf (v5.toList == (ByteArray.mk #[111, 118, 101, 114, 102, 108, 111, 119, 32, 97, 116, 32, 112, 114, 111, 99, 101, 115, 115, 32, 48, 32, 101, 100, 103, 101, 32, 51]).toList)).elim (fun k8 => ?_) (fun k8 => ?_)
        · have h := iteT h k8
          refine Lg rfl rfl rfl k8 rfl (lt_build (cs := [.emp, .emp, .emp, .pv (.int .i64 0)]) rfl st55 rfl (by kernel_rfl)) rfl ?_
          obtain ⟨v6, k9, h⟩ := bindE h
          refine Hg rfl rfl rfl k8 rfl rfl (op_fl rfl rfl (fl_call rfl Tryd.call20 rfl (by kernel_rfl) (by kernel_rfl) (report_Text_meets k9)) ?_)
          refine Lg rfl rfl rfl k8 rfl (lt_str rfl rfl rfl rfl) rfl ?_
          refine L rfl rfl (lt_pickT rfl rfl k8 rfl) rfl ?_
          refine R tbok 1 [0] [(0, [.c (.pv (.bool (v6.toList == (ByteArray.mk #[115, 116, 101, 112, 115, 32, 48, 10, 110, 111, 32, 97, 108, 97, 114, 109, 10]).toList)))])] (by kernel_rfl) ?_
          refine ops_nil ?_
          obtain rfl := retE h
          refine mN ?_
          exact wkE (by kernel_rfl) (by kernel_rfl)
        · have h := iteF h k8
          refine Ls0 rfl rfl rfl k8 rfl rfl ?_
          refine Ls0 rfl rfl rfl k8 rfl rfl ?_
          refine Ls0 rfl rfl rfl k8 rfl rfl ?_
          refine L rfl rfl (lt_pickF rfl rfl k8 rfl) rfl ?_
          refine R tbok 1 [0] [(0, [.c (.pv (.bool false))])] (by kernel_rfl) ?_
          refine ops_nil ?_
          obtain rfl := retE h
          refine mN ?_
          exact wkE (by kernel_rfl) (by kernel_rfl)
      · have h := iteF h k6
        refine Ls0 rfl rfl rfl k6 rfl rfl ?_
        refine Ls0 rfl rfl rfl k6 rfl rfl ?_
        refine Ls0 rfl rfl rfl k6 rfl rfl ?_
        refine L rfl rfl (lt_pickF rfl rfl k6 rfl) rfl ?_
        refine R tbok 1 [14, 0] [(14, [.c (.pv (.bool false))]), (0, [.c (.pv (.bool false))])] (by kernel_rfl) ?_
        refine Ls0 rfl rfl rfl rfl rfl rfl ?_
        refine Ls0 rfl rfl rfl rfl rfl rfl ?_
        refine Ls0 rfl rfl rfl rfl rfl rfl ?_
        refine L rfl rfl (lt_pickF rfl rfl rfl rfl) rfl ?_
        refine R tbok 1 [0] [(0, [.c (.pv (.bool false))])] (by kernel_rfl) ?_
        refine ops_nil ?_
        obtain rfl := retE h
        refine mN ?_
        exact wkE (by kernel_rfl) (by kernel_rfl)
    · have h := iteF h k3
      refine Ls0 rfl rfl rfl k3 rfl rfl ?_
      refine Ls0 rfl rfl rfl k3 rfl rfl ?_
      refine Ls0 rfl rfl rfl k3 rfl rfl ?_
      refine L rfl rfl (lt_pickF rfl rfl k3 rfl) rfl ?_
      refine R tbok 1 [9, 0] [(9, [.c (.pv (.bool false))]), (0, [.c (.pv (.bool false))])] (by kernel_rfl) ?_
      refine Ls0 rfl rfl rfl rfl rfl rfl ?_
      refine Ls0 rfl rfl rfl rfl rfl rfl ?_
      refine Ls0 rfl rfl rfl rfl rfl rfl ?_
      refine L rfl rfl (lt_pickF rfl rfl rfl rfl) rfl ?_
      refine R tbok 1 [14, 0] [(14, [.c (.pv (.bool false))]), (0, [.c (.pv (.bool false))])] (by kernel_rfl) ?_
      refine Ls0 rfl rfl rfl rfl rfl rfl ?_
      refine Ls0 rfl rfl rfl rfl rfl rfl ?_
      refine Ls0 rfl rfl rfl rfl rfl rfl ?_
      refine L rfl rfl (lt_pickF rfl rfl rfl rfl) rfl ?_
      refine R tbok 1 [0] [(0, [.c (.pv (.bool false))])] (by kernel_rfl) ?_
      refine ops_nil ?_
      obtain rfl := retE h
      refine mN ?_
      exact wkE (by kernel_rfl) (by kernel_rfl)
  · refine then_ ?_
    refine ret_ ?_
    obtain rfl := retE h
    refine rwr (rw_ (.tmp rfl .nil) ?_)
    exact wkE (by kernel_rfl) (by kernel_rfl)

theorem r17_digits_meets {a0 : Int} {r : ByteArray} (h : r17_digits a0 = some r) : MeetsV Tryd.prog GG 43 [.c (.pv (.int .u64 a0))] [.c (.pv (.str r))] := by
  refine MeetsS.toV (meetsW_of (st0 := []) (N := 21) r_r17_digits o_r17_digits r Tryd.func43 rfl rfl rfl (by dsimp only [argEnv]) rfl ?_) rfl
  unfold r17_digits at h
  refine seq_ ?_
  refine region_ ?_
  refine R tbok 1 [2, 0] [(2, [.c (.pv (.str (ByteArray.mk #[])))]), (0, [.c (.pv (.int .u64 a0))])] (by kernel_rfl) ?_
  refine ops_nil ?_
  refine then_ ?_
  refine seq_ ?_
  refine region_ ?_
  refine R tbok 1 [3, 2, 0] [(3, [.c (.pv (.str (ByteArray.mk #[])))]), (2, [.c (.pv (.str (ByteArray.mk #[])))]), (0, [.c (.pv (.int .u64 a0))])] (by kernel_rfl) ?_
  refine ops_nil ?_
  refine then_ ?_
  refine seq_ ?_
  refine lp_ (Qr := RW Tryd.prog GG Tryd.f43 0 r_r17_digits o_r17_digits) (r17_digits_l1) (fun (x1 : (Int × ByteArray)) => (⟨21, 0, [(0, [.c (.pv (.int .u64 x1.1))]), (3, [.c (.pv (.str x1.2))])], []⟩ : Sx)) (fun (j1 : ByteArray) => (⟨21, 0, [(3, [.c (.pv (.str j1))])], []⟩ : Sx)) (a0, (ByteArray.mk #[])) RW.only h wT ?_ (fun x1 o h => ?_) (fun r h s' hs => ?_) (fun j1 h => ?_)
  · refine w_sub (env' := [(0, [.c (.pv (.int .u64 a0))]), (3, [.c (.pv (.str (ByteArray.mk #[])))])]) (sub_cons rfl (sub_cons rfl sub_nil)) ?_
    exact wkE (by kernel_rfl) (by kernel_rfl)
  · unfold r17_digits_l1 at h
    refine seq_ ?_
    refine seq_ ?_
    refine jn_ (fun (j2 : Bool) => (⟨21, 0, [(0, [.c (.pv (.int .u64 x1.1))]), (3, [.c (.pv (.str x1.2))]), (9, [.c (.pv (.bool j2))])], []⟩ : Sx)) h wT (fun o h => ?_) (fun j2 h => ?_)
    · refine region_ ?_
      refine R tbok 3 [6, 0, 3] [(6, [.c (.pv (.bool (decide (x1.1 > 0))))]), (0, [.c (.pv (.int .u64 x1.1))]), (3, [.c (.pv (.str x1.2))])] (by kernel_rfl) ?_
      refine (tf (decide (x1.1 > 0))).elim (fun k1 => ?_) (fun k1 => ?_)
      · have h := iteT h k1
        refine Ls0 rfl rfl rfl k1 rfl rfl ?_
        refine Ls0 rfl rfl rfl k1 rfl rfl ?_
        refine L rfl rfl (lt_pickT rfl rfl k1 rfl) rfl ?_
        refine ops_nil ?_
        obtain rfl := retE h
        refine mN ?_
        refine w_sub (env' := [(0, [.c (.pv (.int .u64 x1.1))]), (3, [.c (.pv (.str x1.2))]), (9, [.c (.pv (.bool true))])]) (sub_cons rfl (sub_cons rfl (sub_cons rfl sub_nil))) ?_
        exact wkE (by kernel_rfl) (by kernel_rfl)
      · have h := iteF h k1
        refine Lg rfl rfl rfl k1 rfl (lt_move rfl rfl) rfl ?_
        refine Lg rfl rfl rfl k1 rfl (lt_str rfl rfl rfl rfl) rfl ?_
        refine L rfl rfl (lt_pickF rfl rfl k1 rfl) rfl ?_
        refine ops_nil ?_
        obtain rfl := retE h
        refine mN ?_
        refine w_sub (env' := [(0, [.c (.pv (.int .u64 x1.1))]), (3, [.c (.pv (.str x1.2))]), (9, [.c (.pv (.bool (x1.2.toList == (ByteArray.mk #[]).toList)))])]) (sub_cons rfl (sub_cons rfl (sub_cons rfl sub_nil))) ?_
        exact wkE (by kernel_rfl) (by kernel_rfl)
    · refine then_ ?_
      refine cond_ (b := j2) rfl (fun k2 => ?_) (fun k2 => ?_)
      · have h := iteT h k2
        refine skip_ ?_
        refine then_ ?_
        refine block_ ?_
        refine seq_ ?_
        refine region_ ?_
        refine R tbok 1 [10, 0, 3] [(10, [.c (.pv (.int .u64 x1.1))]), (0, [.c (.pv (.int .u64 x1.1))]), (3, [.c (.pv (.str x1.2))])] (by kernel_rfl) ?_
        obtain ⟨v1, k3, h⟩ := bindE h
        refine L rfl rfl (rem_ rfl rfl rfl k3) rfl ?_
        refine R tbok 2 [13, 0, 3] [(13, [.c (.pv (.int .u8 (IntKind.u8.wrap (IntKind.u64.wrap (48 + v1)))))]), (0, [.c (.pv (.int .u64 x1.1))]), (3, [.c (.pv (.str x1.2))])] (by kernel_rfl) ?_
        refine C rfl rfl (fl_slice (List.map e_u8 [(IntKind.u8.wrap (IntKind.u64.wrap (48 + v1)))]) rfl sl73 rfl rfl rfl rfl rfl rfl rfl) rfl ?_
        refine L rfl rfl (run_bytes (f := e_u8) (fun _ => rfl) rfl u73 u5 u9 rfl (.sl _)) rfl ?_
        refine R tbok 1 [16, 15, 0, 3] [(16, [.c (.pv (.str x1.2))]), (15, [.c (.pv (.str (strOfNums [(IntKind.u8.wrap (IntKind.u64.wrap (48 + v1)))])))]), (0, [.c (.pv (.int .u64 x1.1))]), (3, [.c (.pv (.str x1.2))])] (by kernel_rfl) ?_
        obtain ⟨v2, k4, h⟩ := bindE h
        refine L rfl rfl (cat_ rfl rfl rfl k4) rfl ?_
        refine R tbok 1 [3, 0] [(3, [.c (.pv (.str v2))]), (0, [.c (.pv (.int .u64 x1.1))])] (by kernel_rfl) ?_
        refine ops_nil ?_
        refine then_ ?_
        refine region_ ?_
        refine R tbok 1 [18, 3, 0] [(18, [.c (.pv (.int .u64 x1.1))]), (3, [.c (.pv (.str v2))]), (0, [.c (.pv (.int .u64 x1.1))])] (by kernel_rfl) ?_
        obtain ⟨v3, k5, h⟩ := bindE h
        refine L rfl rfl (quo_ rfl rfl rfl k5) rfl ?_
        refine R tbok 1 [0, 3] [(0, [.c (.pv (.int .u64 v3))]), (3, [.c (.pv (.str v2))])] (by kernel_rfl) ?_
        refine ops_nil ?_
        refine bN ?_
        obtain rfl := retE h
        refine lN ?_
        exact wkE (by kernel_rfl) (by kernel_rfl)
      · have h := iteF h k2
        refine exit_ ?_
        refine tX ?_
        obtain rfl := retE h
        refine lX ?_
        refine w_sub (env' := [(3, [.c (.pv (.str x1.2))])]) (sub_cons rfl sub_nil) ?_
        exact wkE (by kernel_rfl) (by kernel_rfl)
  · cases h
  · have h := elimR h
    refine then_ ?_
    refine seq_ ?_
    refine region_ ?_
    refine R tbok 2 [2] [(2, [.c (.pv (.str j1))])] (by kernel_rfl) ?_
    refine ops_nil ?_
    refine then_ ?_
    refine ret_ ?_
    obtain rfl := retE h
    refine rwr (rw_ (.tmp rfl .nil) ?_)
    exact wkE (by kernel_rfl) (by kernel_rfl)

theorem r17_Number_meets {a0 : Int} {r : ByteArray} (h : r17_Number a0 = some r) : MeetsV Tryd.prog GG 31 [.c (.pv (.int .i64 a0))] [.c (.pv (.str r))] := by
  refine MeetsS.toV (meetsW_of (st0 := []) (N := 13) r_r17_Number o_r17_Number r Tryd.func31 rfl rfl rfl (by dsimp only [argEnv]) rfl ?_) rfl
  unfold r17_Number at h
  refine seq_ ?_
  refine region_ ?_
  refine R tbok 1 [2, 0] [(2, [.c (.pv (.str (ByteArray.mk #[])))]), (0, [.c (.pv (.int .i64 a0))])] (by kernel_rfl) ?_
  refine ops_nil ?_
  refine then_ ?_
  refine seq_ ?_
  refine seq_ ?_
  refine region_ ?_
  refine R tbok 2 [4, 2, 0] [(4, [.c (.pv (.bool (decide (a0 < 0))))]), (2, [.c (.pv (.str (ByteArray.mk #[])))]), (0, [.c (.pv (.int .i64 a0))])] (by kernel_rfl) ?_
  refine ops_nil ?_
  refine then_ ?_
  refine cond_ (b := (decide (a0 < 0))) rfl (fun k1 => ?_) (fun k1 => ?_)
  · have h := iteT h k1
    refine seq_ ?_
    refine region_ ?_
    refine R tbok 3 [7, 2, 0] [(7, [.c (.pv (.int .u64 (IntKind.u64.wrap (IntKind.i64.wrap (0 - a0)))))]), (2, [.c (.pv (.str (ByteArray.mk #[])))]), (0, [.c (.pv (.int .i64 a0))])] (by kernel_rfl) ?_
    obtain ⟨v1, k2, h⟩ := bindE h
    refine C rfl rfl (fl_call rfl Tryd.call43 rfl (by kernel_rfl) (by kernel_rfl) (r17_digits_meets k2)) rfl ?_
    obtain ⟨v2, k3, h⟩ := bindE h
    refine L rfl rfl (cat_ rfl rfl rfl k3) rfl ?_
    refine R tbok 1 [2, 0] [(2, [.c (.pv (.str v2))]), (0, [.c (.pv (.int .i64 a0))])] (by kernel_rfl) ?_
    refine ops_nil ?_
    refine then_ ?_
    refine ret_ ?_
    obtain rfl := retE h
    refine tR (rwr (rw_ (.tmp rfl .nil) ?_))
    exact wkE (by kernel_rfl) (by kernel_rfl)
  · have h := iteF h k1
    refine skip_ ?_
    refine then_ ?_
    refine seq_ ?_
    refine region_ ?_
    refine R tbok 2 [11, 2] [(11, [.c (.pv (.int .u64 (IntKind.u64.wrap a0)))]), (2, [.c (.pv (.str (ByteArray.mk #[])))])] (by kernel_rfl) ?_
    obtain ⟨v3, k4, h⟩ := bindE h
    refine C rfl rfl (fl_call rfl Tryd.call43 rfl (by kernel_rfl) (by kernel_rfl) (r17_digits_meets k4)) rfl ?_
    refine R tbok 1 [2] [(2, [.c (.pv (.str v3))])] (by kernel_rfl) ?_
    refine ops_nil ?_
    refine then_ ?_
    refine ret_ ?_
    obtain rfl := retE h
    refine rwr (rw_ (.tmp rfl .nil) ?_)
    exact wkE (by kernel_rfl) (by kernel_rfl)

theorem r17_Itv_meets {a0 : r08_Itv} {r : ByteArray} (h : r17_Itv a0 = some r) : MeetsV Tryd.prog GG 16 [.agg [.pv (.int .i64 a0.Lo), .pv (.int .i64 a0.Hi)]] [.c (.pv (.str r))] := by
  refine MeetsS.toV (meetsW_of (st0 := []) (N := 32) r_r17_Itv o_r17_Itv r Tryd.func16 rfl rfl rfl (by dsimp only [argEnv]) rfl ?_) rfl
  unfold r17_Itv at h
  refine seq_ ?_
  refine region_ ?_
  refine B rfl rfl (bir_box rfl rfl rfl) rfl rfl .z ?_
  refine R tbok 1 [2, 1] [(2, [.c (.pv (.str (ByteArray.mk #[])))]), (1, [.c (.box 0 0)])] (by kernel_rfl) ?_
  refine ops_nil ?_
  refine then_ ?_
  refine seq_ ?_
  refine seq_ ?_
  refine region_ ?_
  refine R tbok 5 [7, 2, 1] [(7, [.c (.pv (.bool (decide (a0.Lo > a0.Hi))))]), (2, [.c (.pv (.str (ByteArray.mk #[])))]), (1, [.c (.box 0 0)])] (by kernel_rfl) ?_
  refine ops_nil ?_
  refine then_ ?_
  refine cond_ (b := (decide (a0.Lo > a0.Hi))) rfl (fun k1 => ?_) (fun k1 => ?_)
  · have h := iteT h k1
    refine seq_ ?_
    refine region_ ?_
    refine R tbok 1 [2, 1] [(2, [.c (.pv (.str (ByteArray.mk #[110, 111, 110, 101])))]), (1, [.c (.box 0 0)])] (by kernel_rfl) ?_
    refine ops_nil ?_
    refine then_ ?_
    refine ret_ ?_
    obtain rfl := retE h
    refine tR (rwr (rw_ (.tmp rfl .nil) ?_))
    refine w_none 0 .z ?_
    refine w_cut 0 rfl rfl rfl rfl ?_
    exact wkE (by kernel_rfl) (by kernel_rfl)
  · have h := iteF h k1
    refine skip_ ?_
    refine then_ ?_
    refine seq_ ?_
    refine seq_ ?_
    refine region_ ?_
    refine R tbok 5 [12, 2, 1] [(12, [.c (.pv (.bool (a0.Lo == a0.Hi)))]), (2, [.c (.pv (.str (ByteArray.mk #[])))]), (1, [.c (.box 0 0)])] (by kernel_rfl) ?_
    refine ops_nil ?_
    refine then_ ?_
    refine cond_ (b := (a0.Lo == a0.Hi)) rfl (fun k2 => ?_) (fun k2 => ?_)
    · have h := iteT h k2
      refine seq_ ?_
      refine region_ ?_
      refine R tbok 2 [14, 2, 1] [(14, [.c (.pv (.int .i64 a0.Lo))]), (2, [.c (.pv (.str (ByteArray.mk #[])))]), (1, [.c (.box 0 0)])] (by kernel_rfl) ?_
      obtain ⟨v1, k3, h⟩ := bindE h
      refine C rfl rfl (fl_call rfl Tryd.call31 rfl (by kernel_rfl) (by kernel_rfl) (r17_Number_meets k3)) rfl ?_
      refine R tbok 1 [2, 1] [(2, [.c (.pv (.str v1))]), (1, [.c (.box 0 0)])] (by kernel_rfl) ?_
      refine ops_nil ?_
      refine then_ ?_
      refine ret_ ?_
      obtain rfl := retE h
      refine tR (rwr (rw_ (.tmp rfl .nil) ?_))
      refine w_none 0 .z ?_
      refine w_cut 0 rfl rfl rfl rfl ?_
      exact wkE (by kernel_rfl) (by kernel_rfl)
    · have h := iteF h k2
      refine skip_ ?_
      refine then_ ?_
      refine seq_ ?_
      refine seq_ ?_
      refine jn_ (fun (j1 : Bool) => (⟨32, 0, [(1, [.c (.box 0 0)]), (2, [.c (.pv (.str (ByteArray.mk #[])))]), (23, [.c (.pv (.bool j1))])], [some (.box true 23 [.pv (.int .i64 a0.Lo), .pv (.int .i64 a0.Hi)])]⟩ : Sx)) h wT (fun o h => ?_) (fun j1 h => ?_)
      · refine region_ ?_
        refine R tbok 4 [19, 2, 1] [(19, [.c (.pv (.bool (a0.Lo == (-2147483648))))]), (2, [.c (.pv (.str (ByteArray.mk #[])))]), (1, [.c (.box 0 0)])] (by kernel_rfl) ?_
        refine (tf (a0.Lo == (-2147483648))).elim (fun k4 => ?_) (fun k4 => ?_)
        · have h := iteT h k4
          refine Lg rfl rfl rfl k4 rfl (lt_fa_box rfl f23_1 ty3 (by decide) rfl) rfl ?_
          refine Lg rfl rfl rfl k4 rfl (lt_load_box rfl ty3 rfl rfl rfl) rfl ?_
          refine Lg rfl rfl rfl k4 rfl (lt_int rfl rfl rfl rfl) rfl ?_
          refine L rfl rfl (lt_pickT rfl rfl k4 rfl) rfl ?_
          refine ops_nil ?_
          obtain rfl := retE h
          refine mN ?_
          refine w_sub (env' := [(1, [.c (.box 0 0)]), (2, [.c (.pv (.str (ByteArray.mk #[])))]), (23, [.c (.pv (.bool (a0.Hi == 2147483647)))])]) (sub_cons rfl (sub_cons rfl (sub_cons rfl sub_nil))) ?_
          exact wkE (by kernel_rfl) (by kernel_rfl)
        · have h := iteF h k4
          refine Ls0 rfl rfl rfl k4 rfl rfl ?_
          refine Ls0 rfl rfl rfl k4 rfl rfl ?_
          refine Ls0 rfl rfl rfl k4 rfl rfl ?_
          refine L rfl rfl (lt_pickF rfl rfl k4 rfl) rfl ?_
          refine ops_nil ?_
          obtain rfl := retE h
          refine mN ?_
          refine w_sub (env' := [(1, [.c (.box 0 0)]), (2, [.c (.pv (.str (ByteArray.mk #[])))]), (23, [.c (.pv (.bool false))])]) (sub_cons rfl (sub_cons rfl (sub_cons rfl sub_nil))) ?_
          exact wkE (by kernel_rfl) (by kernel_rfl)
      · refine then_ ?_
        refine cond_ (b := j1) rfl (fun k5 => ?_) (fun k5 => ?_)
        · have h := iteT h k5
          refine seq_ ?_
          refine region_ ?_
          refine R tbok 1 [2, 1] [(2, [.c (.pv (.str (ByteArray.mk #[97, 110, 121])))]), (1, [.c (.box 0 0)])] (by kernel_rfl) ?_
          refine ops_nil ?_
          refine then_ ?_
          refine ret_ ?_
          obtain rfl := retE h
          refine tR (rwr (rw_ (.tmp rfl .nil) ?_))
          refine w_none 0 .z ?_
          refine w_cut 0 rfl rfl rfl rfl ?_
          exact wkE (by kernel_rfl) (by kernel_rfl)
        · have h := iteF h k5
          refine skip_ ?_
          refine then_ ?_
          refine seq_ ?_
          refine drawn_ mixed ?_
          refine dl (t := 24) 0 [.c (.box 0 0)] rfl ?_
          refine dl (t := 25) 1 [.c (.pv (.int .i64 a0.Lo))] rfl ?_
          obtain ⟨v3, k7, h⟩ := bindE h
          refine dl (t := 26) 2 [.c (.pv (.str v3))] rfl ?_
          obtain ⟨v4, k8, h⟩ := bindE h
          refine dl (t := 27) 3 [.c (.pv (.str v4))] rfl ?_
          refine dl (t := 28) 4 [.c (.box 0 1)] rfl ?_
          refine dl (t := 29) 5 [.c (.pv (.int .i64 a0.Hi))] rfl ?_
          obtain ⟨v6, k10, h⟩ := bindE h
          refine dl (t := 30) 6 [.c (.pv (.str v6))] rfl ?_
          obtain ⟨v7, k11, h⟩ := bindE h
          refine dl (t := 31) 7 [.c (.pv (.str v7))] rfl ?_
          refine dl (t := 2) 8 [.c (.pv (.str v7))] rfl ?_
          refine d_endS (env2 := [(2, [.c (.pv (.str v7))])]) (wm [0, 1, 3, 7, 0, 16, 55, 127, 255]) (by kernel_rfl) (by kernel_rfl) (by kernel_rfl) (oE tbok [] 1 (by kernel_rfl) (oL [] rfl (by kernel_rfl) (fl_lt (cat_ rfl rfl rfl k11)) (oL [] rfl (by kernel_rfl) (fl_call rfl Tryd.call31 rfl (by kernel_rfl) (by kernel_rfl) (r17_Number_meets k10)) (oE tbok [] 2 (by kernel_rfl) (oL [] rfl (by kernel_rfl) (fl_lt (cat_ rfl rfl rfl k8)) (oL [] rfl (by kernel_rfl) (fl_call rfl Tryd.call31 rfl (by kernel_rfl) (by kernel_rfl) (r17_Number_meets k7)) (oE tbok [] 2 (by kernel_rfl) trivial))))))) (sub_cons rfl sub_nil) wT ?_
          refine then_ ?_
          refine ret_ ?_
          obtain rfl := retE h
          refine rwr (rw_ (.tmp rfl .nil) ?_)
          refine w_none 0 .z ?_
          refine w_cut 0 rfl rfl rfl rfl ?_
          exact wkE (by kernel_rfl) (by kernel_rfl)

theorem r17_Alarm_meets {a0 : Int} {a1 : Int} {a2 : Int} {r : ByteArray} (h : r17_Alarm a0 a1 a2 = some r) : MeetsV Tryd.prog GG 18 [.c (.pv (.int .i64 a0)), .c (.pv (.int .i64 a1)), .c (.pv (.int .i64 a2))] [.c (.pv (.str r))] := by
  refine MeetsS.toV (meetsW_of (st0 := []) (N := 28) r_r17_Alarm o_r17_Alarm r Tryd.func18 rfl rfl rfl (by dsimp only [argEnv]) rfl ?_) rfl
  unfold r17_Alarm at h
  refine seq_ ?_
  refine region_ ?_
  refine R tbok 1 [6, 0, 1, 2] [(6, [.c (.pv (.str (ByteArray.mk #[])))]), (0, [.c (.pv (.int .i64 a0))]), (1, [.c (.pv (.int .i64 a1))]), (2, [.c (.pv (.int .i64 a2))])] (by kernel_rfl) ?_
  refine ops_nil ?_
  refine then_ ?_
  refine seq_ ?_
  refine region_ ?_
  refine R tbok 1 [7, 6, 0, 1, 2] [(7, [.c (.pv (.str (ByteArray.mk #[101, 114, 114, 111, 114])))]), (6, [.c (.pv (.str (ByteArray.mk #[])))]), (0, [.c (.pv (.int .i64 a0))]), (1, [.c (.pv (.int .i64 a1))]), (2, [.c (.pv (.int .i64 a2))])] (by kernel_rfl) ?_
  refine ops_nil ?_
  refine then_ ?_
  refine seq_ ?_
  refine jn_ (fun (j1 : ByteArray) => (⟨28, 0, [(0, [.c (.pv (.int .i64 a0))]), (1, [.c (.pv (.int .i64 a1))]), (7, [.c (.pv (.str j1))])], []⟩ : Sx)) h wT (fun o h => ?_) (fun j1 h => ?_)
  · refine seq_ ?_
    refine jn_ (fun (j2 : Bool) => (⟨28, 0, [(0, [.c (.pv (.int .i64 a0))]), (1, [.c (.pv (.int .i64 a1))]), (2, [.c (.pv (.int .i64 a2))]), (7, [.c (.pv (.str (ByteArray.mk #[101, 114, 114, 111, 114])))]), (13, [.c (.pv (.bool j2))])], []⟩ : Sx)) h wT (fun o h => ?_) (fun j2 h => ?_)
    · refine region_ ?_
      refine R tbok 3 [10, 7, 0, 1, 2] [(10, [.c (.pv (.bool (decide (a2 ≥ 1))))]), (7, [.c (.pv (.str (ByteArray.mk #[101, 114, 114, 111, 114])))]), (0, [.c (.pv (.int .i64 a0))]), (1, [.c (.pv (.int .i64 a1))]), (2, [.c (.pv (.int .i64 a2))])] (by kernel_rfl) ?_
      refine (tf (decide (a2 ≥ 1))).elim (fun k1 => ?_) (fun k1 => ?_)
      · have h := iteT h k1
        refine Lg rfl rfl rfl k1 rfl (lt_move rfl rfl) rfl ?_
        refine Lg rfl rfl rfl k1 rfl (lt_int rfl rfl rfl rfl) rfl ?_
        refine L rfl rfl (lt_pickT rfl rfl k1 rfl) rfl ?_
        refine ops_nil ?_
        obtain rfl := retE h
        refine mN ?_
        refine w_sub (env' := [(0, [.c (.pv (.int .i64 a0))]), (1, [.c (.pv (.int .i64 a1))]), (2, [.c (.pv (.int .i64 a2))]), (7, [.c (.pv (.str (ByteArray.mk #[101, 114, 114, 111, 114])))]), (13, [.c (.pv (.bool (decide (a2 ≤ 6))))])]) (sub_cons rfl (sub_cons rfl (sub_cons rfl (sub_cons rfl (sub_cons rfl sub_nil))))) ?_
        exact wkE (by kernel_rfl) (by kernel_rfl)
      · have h := iteF h k1
        refine Ls0 rfl rfl rfl k1 rfl rfl ?_
        refine Ls0 rfl rfl rfl k1 rfl rfl ?_
        refine L rfl rfl (lt_pickF rfl rfl k1 rfl) rfl ?_
        refine ops_nil ?_
        obtain rfl := retE h
        refine mN ?_
        refine w_sub (env' := [(0, [.c (.pv (.int .i64 a0))]), (1, [.c (.pv (.int .i64 a1))]), (2, [.c (.pv (.int .i64 a2))]), (7, [.c (.pv (.str (ByteArray.mk #[101, 114, 114, 111, 114])))]), (13, [.c (.pv (.bool false))])]) (sub_cons rfl (sub_cons rfl (sub_cons rfl (sub_cons rfl (sub_cons rfl sub_nil))))) ?_
        exact wkE (by kernel_rfl) (by kernel_rfl)
    · refine then_ ?_
      refine cond_ (b := j2) rfl (fun k2 => ?_) (fun k2 => ?_)
      · have h := iteT h k2
        refine region_ ?_
        refine C rfl rfl (fl_slice (List.map e_str [(ByteArray.mk #[102, 97, 105, 108, 101, 100, 32, 97, 115, 115, 101, 114, 116, 105, 111, 110]), (ByteArray.mk #[111, 118, 101, 114, 102, 108, 111, 119]), (ByteArray.mk #[100, 105, 118, 105, 115, 105, 111, 110, 32, 98, 121, 32, 122, 101, 114, 111]), (ByteArray.mk #[102, 117, 108, 108, 32, 99, 104, 97, 110, 110, 101, 108]), (ByteArray.mk #[119, 114, 111, 110, 103, 32, 116, 97, 103]), (ByteArray.mk #[98, 114, 111, 107, 101, 110, 32, 114, 117, 108, 101])]) rfl sl70 rfl rfl rfl rfl rfl rfl rfl) rfl ?_
        refine R tbok 2 [16, 14, 0, 1, 7] [(16, [.c (.pv (.int .i64 (IntKind.i64.wrap (a2 - 1))))]), (14, [.c (.pv (.sl (List.map e_str [(ByteArray.mk #[102, 97, 105, 108, 101, 100, 32, 97, 115, 115, 101, 114, 116, 105, 111, 110]), (ByteArray.mk #[111, 118, 101, 114, 102, 108, 111, 119]), (ByteArray.mk #[100, 105, 118, 105, 115, 105, 111, 110, 32, 98, 121, 32, 122, 101, 114, 111]), (ByteArray.mk #[102, 117, 108, 108, 32, 99, 104, 97, 110, 110, 101, 108]), (ByteArray.mk #[119, 114, 111, 110, 103, 32, 116, 97, 103]), (ByteArray.mk #[98, 114, 111, 107, 101, 110, 32, 114, 117, 108, 101])])))]), (0, [.c (.pv (.int .i64 a0))]), (1, [.c (.pv (.int .i64 a1))]), (7, [.c (.pv (.str (ByteArray.mk #[101, 114, 114, 111, 114])))])] (by kernel_rfl) ?_
        obtain ⟨v1, k3, h⟩ := bindE h
        refine L rfl rfl (ia_sl (e := e_str) (y := v1) rfl u70 ty9 rfl rfl k3 rfl) rfl ?_
        refine R tbok 2 [7, 0, 1] [(7, [.c (.pv (.str v1))]), (0, [.c (.pv (.int .i64 a0))]), (1, [.c (.pv (.int .i64 a1))])] (by kernel_rfl) ?_
        refine ops_nil ?_
        obtain rfl := retE h
        refine mN ?_
        refine w_sub (env' := [(0, [.c (.pv (.int .i64 a0))]), (1, [.c (.pv (.int .i64 a1))]), (7, [.c (.pv (.str v1))])]) (sub_cons rfl (sub_cons rfl (sub_cons rfl sub_nil))) ?_
        exact wkE (by kernel_rfl) (by kernel_rfl)
      · have h := iteF h k2
        refine skip_ ?_
        obtain rfl := retE h
        refine mN ?_
        refine w_sub (env' := [(0, [.c (.pv (.int .i64 a0))]), (1, [.c (.pv (.int .i64 a1))]), (7, [.c (.pv (.str (ByteArray.mk #[101, 114, 114, 111, 114])))])]) (sub_cons rfl (sub_cons rfl (sub_cons rfl sub_nil))) ?_
        exact wkE (by kernel_rfl) (by kernel_rfl)
  · refine then_ ?_
    refine seq_ ?_
    refine region_ ?_
    refine R tbok 1 [19, 0, 1] [(19, [.c (.pv (.str j1))]), (0, [.c (.pv (.int .i64 a0))]), (1, [.c (.pv (.int .i64 a1))])] (by kernel_rfl) ?_
    obtain ⟨v2, k4, h⟩ := bindE h
    refine L rfl rfl (cat_ rfl rfl rfl k4) rfl ?_
    refine R tbok 1 [21, 20, 1] [(21, [.c (.pv (.int .i64 a0))]), (20, [.c (.pv (.str v2))]), (1, [.c (.pv (.int .i64 a1))])] (by kernel_rfl) ?_
    obtain ⟨v3, k5, h⟩ := bindE h
    refine C rfl rfl (fl_call rfl Tryd.call31 rfl (by kernel_rfl) (by kernel_rfl) (r17_Number_meets k5)) rfl ?_
    obtain ⟨v4, k6, h⟩ := bindE h
    refine L rfl rfl (cat_ rfl rfl rfl k6) rfl ?_
    obtain ⟨v5, k7, h⟩ := bindE h
    refine L rfl rfl (cat_ rfl rfl rfl k7) rfl ?_
    refine R tbok 1 [25, 24] [(25, [.c (.pv (.int .i64 a1))]), (24, [.c (.pv (.str v5))])] (by kernel_rfl) ?_
    obtain ⟨v6, k8, h⟩ := bindE h
    refine C rfl rfl (fl_call rfl Tryd.call31 rfl (by kernel_rfl) (by kernel_rfl) (r17_Number_meets k8)) rfl ?_
    obtain ⟨v7, k9, h⟩ := bindE h
    refine L rfl rfl (cat_ rfl rfl rfl k9) rfl ?_
    refine R tbok 1 [6] [(6, [.c (.pv (.str v7))])] (by kernel_rfl) ?_
    refine ops_nil ?_
    refine then_ ?_
    refine ret_ ?_
    obtain rfl := retE h
    refine rwr (rw_ (.tmp rfl .nil) ?_)
    exact wkE (by kernel_rfl) (by kernel_rfl)

theorem l17_ReportItvs_meets {a0 : r08_Itv} {a1 : fix_Alarm} {r : Bool} (h : l17_ReportItvs a0 a1 = some r) : MeetsV Tryd.prog GG 3 [.agg [.pv (.int .i64 a0.Lo), .pv (.int .i64 a0.Hi)], .agg [.pv (.int .i64 a1.Proc), .pv (.int .i64 a1.Edge), .pv (.int .i64 a1.Kind)]] [.c (.pv (.bool r))] := by
  refine MeetsS.toV (meetsW_of (st0 := []) (N := 43) r_l17_ReportItvs o_l17_ReportItvs r Tryd.func3 rfl rfl rfl (by dsimp only [argEnv]) rfl ?_) rfl
  unfold l17_ReportItvs at h
  refine seq_ ?_
  refine region_ ?_
  refine B rfl rfl (bir_box rfl rfl rfl) rfl rfl .z ?_
  refine B rfl rfl (bir_box rfl rfl rfl) rfl rfl (.s .z) ?_
  refine R tbok 1 [4, 3, 2] [(4, [.c (.pv (.bool false))]), (3, [.c (.box 1 0)]), (2, [.c (.box 0 0)])] (by kernel_rfl) ?_
  refine ops_nil ?_
  refine then_ ?_
  refine seq_ ?_
  refine region_ ?_
  refine R tbok 1 [6, 4, 3, 2] [(6, [.agg [.pv (.int .i64 a0.Lo), .pv (.int .i64 a0.Hi)]]), (4, [.c (.pv (.bool false))]), (3, [.c (.box 1 0)]), (2, [.c (.box 0 0)])] (by kernel_rfl) ?_
  obtain ⟨v1, k1, h⟩ := bindE h
  refine C rfl rfl (fl_call rfl Tryd.call13 rfl (by kernel_rfl) (by kernel_rfl) (r08_Bend_meets k1)) rfl ?_
  refine B rfl rfl (bir_alloc rfl z23 rfl rfl) rfl rfl (.s (.s .z)) ?_
  refine S rfl rfl rfl ty23 (by decide) rfl rfl rfl rfl rfl (.all rfl) (.s (.s .z)) ?_
  refine ops_nil ?_
  refine then_ ?_
  refine seq_ ?_
  refine jn_ (fun (j1 : Bool) => (⟨43, 0, [(4, [.c (.pv (.bool j1))])], []⟩ : Sx)) h wT (fun o h => ?_) (fun j1 h => ?_)
  · refine drawn_ mixed ?_
    obtain ⟨v3, k3, h⟩ := bindE h
    refine dl (t := 8) 0 [.c (.pv (.bool v3))] rfl ?_
    refine dl (t := 9) 1 [.c (.pv (.bool v3))] rfl ?_
    refine (tf v3).elim (fun k4 => ?_) (fun k4 => ?_)
    · have h := iteT h k4
      refine dl (t := 10) 2 [.c (.box 0 0)] rfl ?_
      refine dl (t := 11) 3 [.c (.pv (.int .i64 a0.Lo))] rfl ?_
      refine dl (t := 12) 4 [.c (.box 0 1)] rfl ?_
      refine dl (t := 13) 5 [.c (.pv (.int .i64 a0.Hi))] rfl ?_
      refine dl (t := 14) 6 [.agg [.pv (.int .i64 a0.Lo), .pv (.int .i64 a0.Hi)]] rfl ?_
      obtain ⟨v5, k6, h⟩ := bindE h
      refine dl (t := 15) 7 [.c (.pv (.str v5))] rfl ?_
      refine dl (t := 16) 8 [.agg [.pv (.int .i64 a0.Lo), .pv (.int .i64 a0.Hi)]] rfl ?_
      obtain ⟨v7, k8, h⟩ := bindE h
      refine dl (t := 17) 9 [.c (.pv (.str v7))] rfl ?_
      refine dl (t := 18) 10 [.c (.pv (.bool (v5.toList == v7.toList)))] rfl ?_
      refine dl (t := 19) 11 [.c (.pv (.bool (v5.toList == v7.toList)))] rfl ?_
      refine dl (t := 20) 12 [.c (.pv (.bool (v5.toList == v7.toList)))] rfl ?_
      refine (tf (v5.toList == v7.toList)).elim (fun k9 => ?_) (fun k9 => ?_)
      · have h := iteT h k9
        refine dl (t := 21) 13 [.c (.box 2 0)] rfl ?_
        refine dl (t := 22) 14 [.c (.pv (.int .i64 v1.Lo))] rfl ?_
        refine dl (t := 23) 15 [.c (.box 2 1)] rfl ?_
        refine dl (t := 24) 16 [.c (.pv (.int .i64 v1.Hi))] rfl ?_
        refine dl (t := 25) 17 [.agg [.pv (.int .i64 v1.Lo), .pv (.int .i64 v1.Hi)]] rfl ?_
        obtain ⟨v9, k11, h⟩ := bindE h
        refine dl (t := 26) 18 [.c (.pv (.str v9))] rfl ?_
        refine dl (t := 27) 19 [.agg [.pv (.int .i64 v1.Lo), .pv (.int .i64 v1.Hi)]] rfl ?_
        obtain ⟨v11, k13, h⟩ := bindE h
        refine dl (t := 28) 20 [.c (.pv (.str v11))] rfl ?_
        refine dl (t := 29) 21 [.c (.pv (.bool (v9.toList == v11.toList)))] rfl ?_
        refine dl (t := 30) 22 [.c (.pv (.bool (v9.toList == v11.toList)))] rfl ?_
        refine dl (t := 31) 23 [.c (.pv (.bool (v9.toList == v11.toList)))] rfl ?_
        refine (tf (v9.toList == v11.toList)).elim (fun k14 => ?_) (fun k14 => ?_)
        · have h := iteT h k14
          refine dl (t := 32) 24 [.agg [.pv (.int .i64 a1.Proc), .pv (.int .i64 a1.Edge), .pv (.int .i64 a1.Kind)]] rfl ?_
          obtain ⟨v13, k16, h⟩ := bindE h
          refine dl (t := 33) 25 [.c (.pv (.str v13))] rfl ?_
          refine dl (t := 34) 26 [.c (.box 1 0)] rfl ?_
          refine dl (t := 35) 27 [.c (.pv (.int .i64 a1.Proc))] rfl ?_
          refine dl (t := 36) 28 [.c (.box 1 1)] rfl ?_
          refine dl (t := 37) 29 [.c (.pv (.int .i64 a1.Edge))] rfl ?_
          refine dl (t := 38) 30 [.c (.box 1 2)] rfl ?_
          refine dl (t := 39) 31 [.c (.pv (.int .i64 a1.Kind))] rfl ?_
          obtain ⟨v15, k18, h⟩ := bindE h
          refine dl (t := 40) 32 [.c (.pv (.str v15))] rfl ?_
          refine dl (t := 41) 33 [.c (.pv (.bool (v13.toList == v15.toList)))] rfl ?_
          refine dl (t := 42) 34 [.c (.pv (.bool (v13.toList == v15.toList)))] rfl ?_
          refine dl (t := 4) 35 [.c (.pv (.bool (v13.toList == v15.toList)))] rfl ?_
          refine d_endS (env2 := [(4, [.c (.pv (.bool (v13.toList == v15.toList)))])]) (wm [0, 1, 3, 7, 3, 19, 63, 127, 3, 511, 1023, 2047, 4095, 8191, 16383, 8191, 40959, 131071, 262143, 8191, 1048575, 2097151, 4194303, 8388607, 16777215, 33554431, 16777215, 83886079, 16777215, 285212671, 16777215, 1090519039, 4294967295, 8589934591, 17179869183, 34359738367]) (by kernel_rfl) (by kernel_rfl) (by kernel_rfl) (oE tbok [] 1 (by kernel_rfl) (oL [] rfl (by kernel_rfl) (fl_lt (lt_pickT rfl rfl k14 rfl)) (owF (by kernel_rfl) (fo_l [] rfl rfl rfl (by kernel_rfl) (by kernel_rfl) (by kernel_rfl) (gi1 rfl rfl rfl (beT k14)) (fl_lt (lt_str rfl rfl rfl rfl))) (owF (by kernel_rfl) (fo_l [] rfl rfl rfl (by kernel_rfl) (by kernel_rfl) (by kernel_rfl) (gi1 rfl rfl rfl (beT k14)) (fl_call rfl Tryd.call18 rfl (by kernel_rfl) (by kernel_rfl) (r17_Alarm_meets k18))) (owF (by kernel_rfl) (fo_l [] rfl rfl rfl (by kernel_rfl) (by kernel_rfl) (by kernel_rfl) (gi1 rfl rfl rfl (beT k14)) (fl_lt (lt_load_box rfl ty3 rfl rfl rfl))) (owF (by kernel_rfl) (fo_l [] rfl rfl rfl (by kernel_rfl) (by kernel_rfl) (by kernel_rfl) (gi1 rfl rfl rfl (beT k14)) (fl_lt (lt_fa_box rfl f25_2 ty3 (by decide) rfl))) (owF (by kernel_rfl) (fo_l [] rfl rfl rfl (by kernel_rfl) (by kernel_rfl) (by kernel_rfl) (gi1 rfl rfl rfl (beT k14)) (fl_lt (lt_load_box rfl ty3 rfl rfl rfl))) (owF (by kernel_rfl) (fo_l [] rfl rfl rfl (by kernel_rfl) (by kernel_rfl) (by kernel_rfl) (gi1 rfl rfl rfl (beT k14)) (fl_lt (lt_fa_box rfl f25_1 ty3 (by decide) rfl))) (owF (by kernel_rfl) (fo_l [] rfl rfl rfl (by kernel_rfl) (by kernel_rfl) (by kernel_rfl) (gi1 rfl rfl rfl (beT k14)) (fl_lt (lt_load_box rfl ty3 rfl rfl rfl))) (owF (by kernel_rfl) (fo_l [] rfl rfl rfl (by kernel_rfl) (by kernel_rfl) (by kernel_rfl) (gi1 rfl rfl rfl (beT k14)) (fl_lt (lt_fa_box rfl f25_0 ty3 (by decide) rfl))) (owF (by kernel_rfl) (fo_l [] rfl rfl rfl (by kernel_rfl) (by kernel_rfl) (by kernel_rfl) (gi1 rfl rfl rfl (beT k14)) (fl_call rfl Tryd.call17 rfl (by kernel_rfl) (by kernel_rfl) (report_Alarm_meets k16))) (owF (by kernel_rfl) (fo_l [] rfl rfl rfl (by kernel_rfl) (by kernel_rfl) (by kernel_rfl) (gi1 rfl rfl rfl (beT k14)) (fl_lt (lt_load_boxA (ys := [.pv (.int .i64 a1.Proc), .pv (.int .i64 a1.Edge), .pv (.int .i64 a1.Kind)]) rfl ty25 rfl rfl (by kernel_rfl) (by kernel_rfl)))) (oE tbok [] 1 (by kernel_rfl) (oL [] rfl (by kernel_rfl) (fl_lt (lt_pickT rfl rfl k9 rfl)) (owF (by kernel_rfl) (fo_l [] rfl rfl rfl (by kernel_rfl) (by kernel_rfl) (by kernel_rfl) (gi1 rfl rfl rfl (beT k9)) (fl_lt (lt_str rfl rfl rfl rfl))) (owF (by kernel_rfl) (fo_l [] rfl rfl rfl (by kernel_rfl) (by kernel_rfl) (by kernel_rfl) (gi1 rfl rfl rfl (beT k9)) (fl_call rfl Tryd.call16 rfl (by kernel_rfl) (by kernel_rfl) (r17_Itv_meets k13))) (owF (by kernel_rfl) (fo_l [] rfl rfl rfl (by kernel_rfl) (by kernel_rfl) (by kernel_rfl) (gi1 rfl rfl rfl (beT k9)) (fl_lt (lt_load_boxA (ys := [.pv (.int .i64 v1.Lo), .pv (.int .i64 v1.Hi)]) rfl ty23 rfl rfl (by kernel_rfl) (by kernel_rfl)))) (owF (by kernel_rfl) (fo_l [] rfl rfl rfl (by kernel_rfl) (by kernel_rfl) (by kernel_rfl) (gi1 rfl rfl rfl (beT k9)) (fl_call rfl Tryd.call15 rfl (by kernel_rfl) (by kernel_rfl) (report_Itv_meets k11))) (owF (by kernel_rfl) (fo_l [] rfl rfl rfl (by kernel_rfl) (by kernel_rfl) (by kernel_rfl) (gi1 rfl rfl rfl (beT k9)) (fl_lt (lt_build (cs := [.pv (.int .i64 v1.Lo), .pv (.int .i64 v1.Hi)]) rfl st29 rfl (by kernel_rfl)))) (owF (by kernel_rfl) (fo_l [] rfl rfl rfl (by kernel_rfl) (by kernel_rfl) (by kernel_rfl) (gi1 rfl rfl rfl (beT k9)) (fl_lt (lt_load_box rfl ty3 rfl rfl rfl))) (owF (by kernel_rfl) (fo_l [] rfl rfl rfl (by kernel_rfl) (by kernel_rfl) (by kernel_rfl) (gi1 rfl rfl rfl (beT k9)) (fl_lt (lt_fa_box rfl f23_1 ty3 (by decide) rfl))) (owF (by kernel_rfl) (fo_l [] rfl rfl rfl (by kernel_rfl) (by kernel_rfl) (by kernel_rfl) (gi1 rfl rfl rfl (beT k9)) (fl_lt (lt_load_box rfl ty3 rfl rfl rfl))) (owF (by kernel_rfl) (fo_l [] rfl rfl rfl (by kernel_rfl) (by kernel_rfl) (by kernel_rfl) (gi1 rfl rfl rfl (beT k9)) (fl_lt (lt_fa_box rfl f23_0 ty3 (by decide) rfl))) (oE tbok [] 1 (by kernel_rfl) (oL [] rfl (by kernel_rfl) (fl_lt (lt_pickT rfl rfl k4 rfl)) (owF (by kernel_rfl) (fo_l [] rfl rfl rfl (by kernel_rfl) (by kernel_rfl) (by kernel_rfl) (gi1 rfl rfl rfl (beT k4)) (fl_lt (lt_str rfl rfl rfl rfl))) (owF (by kernel_rfl) (fo_l [] rfl rfl rfl (by kernel_rfl) (by kernel_rfl) (by kernel_rfl) (gi1 rfl rfl rfl (beT k4)) (fl_call rfl Tryd.call16 rfl (by kernel_rfl) (by kernel_rfl) (r17_Itv_meets k8))) (owF (by kernel_rfl) (fo_l [] rfl rfl rfl (by kernel_rfl) (by kernel_rfl) (by kernel_rfl) (gi1 rfl rfl rfl (beT k4)) (fl_lt (lt_load_boxA (ys := [.pv (.int .i64 a0.Lo), .pv (.int .i64 a0.Hi)]) rfl ty23 rfl rfl (by kernel_rfl) (by kernel_rfl)))) (owF (by kernel_rfl) (fo_l [] rfl rfl rfl (by kernel_rfl) (by kernel_rfl) (by kernel_rfl) (gi1 rfl rfl rfl (beT k4)) (fl_call rfl Tryd.call15 rfl (by kernel_rfl) (by kernel_rfl) (report_Itv_meets k6))) (owF (by kernel_rfl) (fo_l [] rfl rfl rfl (by kernel_rfl) (by kernel_rfl) (by kernel_rfl) (gi1 rfl rfl rfl (beT k4)) (fl_lt (lt_build (cs := [.pv (.int .i64 a0.Lo), .pv (.int .i64 a0.Hi)]) rfl st29 rfl (by kernel_rfl)))) (owF (by kernel_rfl) (fo_l [] rfl rfl rfl (by kernel_rfl) (by kernel_rfl) (by kernel_rfl) (gi1 rfl rfl rfl (beT k4)) (fl_lt (lt_load_box rfl ty3 rfl rfl rfl))) (owF (by kernel_rfl) (fo_l [] rfl rfl rfl (by kernel_rfl) (by kernel_rfl) (by kernel_rfl) (gi1 rfl rfl rfl (beT k4)) (fl_lt (lt_fa_box rfl f23_1 ty3 (by decide) rfl))) (owF (by kernel_rfl) (fo_l [] rfl rfl rfl (by kernel_rfl) (by kernel_rfl) (by kernel_rfl) (gi1 rfl rfl rfl (beT k4)) (fl_lt (lt_load_box rfl ty3 rfl rfl rfl))) (owF (by kernel_rfl) (fo_l [] rfl rfl rfl (by kernel_rfl) (by kernel_rfl) (by kernel_rfl) (gi1 rfl rfl rfl (beT k4)) (fl_lt (lt_fa_box rfl f23_0 ty3 (by decide) rfl))) (oE tbok [] 1 (by kernel_rfl) (oL [] rfl (by kernel_rfl) (fl_call rfl Tryd.call14 rfl (by kernel_rfl) (by kernel_rfl) (l17_says_meets k3)) trivial)))))))))))))))))))))))))))))))))))) (sub_cons rfl sub_nil) wM ?_
          obtain rfl := retE h
          refine mN ?_
          refine w_cut 0 rfl rfl rfl rfl ?_
          exact wkE (by kernel_rfl) (by kernel_rfl)
        · have h := iteF h k14
          refine ds (t := 32) 24 rfl ?_
          refine ds (t := 33) 25 rfl ?_
          refine ds (t := 34) 26 rfl ?_
          refine ds (t := 35) 27 rfl ?_
          refine ds (t := 36) 28 rfl ?_
          refine ds (t := 37) 29 rfl ?_
          refine ds (t := 38) 30 rfl ?_
          refine ds (t := 39) 31 rfl ?_
          refine ds (t := 40) 32 rfl ?_
          refine ds (t := 41) 33 rfl ?_
          refine dl (t := 42) 34 [.c (.pv (.bool false))] rfl ?_
          refine dl (t := 4) 35 [.c (.pv (.bool false))] rfl ?_
          refine d_endS (env2 := [(4, [.c (.pv (.bool false))])]) (wm [0, 1, 3, 7, 3, 19, 63, 127, 3, 511, 1023, 2047, 4095, 8191, 16383, 8191, 40959, 131071, 262143, 8191, 1048575, 2097151, 4194303, 8388607, 16777215, 33554431, 16777215, 83886079, 16777215, 285212671, 16777215, 1090519039, 4294967295, 8589934591, 17179869183, 34359738367]) (by kernel_rfl) (by kernel_rfl) (by kernel_rfl) (oE tbok [] 1 (by kernel_rfl) (oL [] rfl (by kernel_rfl) (fl_lt (lt_pickF rfl rfl k14 rfl)) (owF (by kernel_rfl) (fo_s [] rfl rfl rfl (by kernel_rfl) (by kernel_rfl) (by kernel_rfl) (gi1 rfl rfl rfl (beF k14))) (owF (by kernel_rfl) (fo_s [] rfl rfl rfl (by kernel_rfl) (by kernel_rfl) (by kernel_rfl) (gi1 rfl rfl rfl (beF k14))) (owF (by kernel_rfl) (fo_s [] rfl rfl rfl (by kernel_rfl) (by kernel_rfl) (by kernel_rfl) (gi1 rfl rfl rfl (beF k14))) (owF (by kernel_rfl) (fo_s [] rfl rfl rfl (by kernel_rfl) (by kernel_rfl) (by kernel_rfl) (gi1 rfl rfl rfl (beF k14))) (owF (by kernel_rfl) (fo_s [] rfl rfl rfl (by kernel_rfl) (by kernel_rfl) (by kernel_rfl) (gi1 rfl rfl rfl (beF k14))) (owF (by kernel_rfl) (fo_s [] rfl rfl rfl (by kernel_rfl) (by kernel_rfl) (by kernel_rfl) (gi1 rfl rfl rfl (beF k14))) (owF (by kernel_rfl) (fo_s [] rfl rfl rfl (by kernel_rfl) (by kernel_rfl) (by kernel_rfl) (gi1 rfl rfl rfl (beF k14))) (owF (by kernel_rfl) (fo_s [] rfl rfl rfl (by kernel_rfl) (by kernel_rfl) (by kernel_rfl) (gi1 rfl rfl rfl (beF k14))) (owF (by kernel_rfl) (fo_s [] rfl rfl rfl (by kernel_rfl) (by kernel_rfl) (by kernel_rfl) (gi1 rfl rfl rfl (beF k14))) (owF (by kernel_rfl) (fo_s [] rfl rfl rfl (by kernel_rfl) (by kernel_rfl) (by kernel_rfl) (gi1 rfl rfl rfl (beF k14))) (oE tbok [] 1 (by kernel_rfl) (oL [] rfl (by kernel_rfl) (fl_lt (lt_pickT rfl rfl k9 rfl)) (owF (by kernel_rfl) (fo_l [] rfl rfl rfl (by kernel_rfl) (by kernel_rfl) (by kernel_rfl) (gi1 rfl rfl rfl (beT k9)) (fl_lt (lt_str rfl rfl rfl rfl))) (owF (by kernel_rfl) (fo_l [] rfl rfl rfl (by kernel_rfl) (by kernel_rfl) (by kernel_rfl) (gi1 rfl rfl rfl (beT k9)) (fl_call rfl Tryd.call16 rfl (by kernel_rfl) (by kernel_rfl) (r17_Itv_meets k13))) (owF (by kernel_rfl) (fo_l [] rfl rfl rfl (by kernel_rfl) (by kernel_rfl) (by kernel_rfl) (gi1 rfl rfl rfl (beT k9)) (fl_lt (lt_load_boxA (ys := [.pv (.int .i64 v1.Lo), .pv (.int .i64 v1.Hi)]) rfl ty23 rfl rfl (by kernel_rfl) (by kernel_rfl)))) (owF (by kernel_rfl) (fo_l [] rfl rfl rfl (by kernel_rfl) (by kernel_rfl) (by kernel_rfl) (gi1 rfl rfl rfl (beT k9)) (fl_call rfl Tryd.call15 rfl (by kernel_rfl) (by kernel_rfl) (report_Itv_meets k11))) (owF (by kernel_rfl) (fo_l [] rfl rfl rfl (by kernel_rfl) (by kernel_rfl) (by kernel_rfl) (gi1 rfl rfl rfl (beT k9)) (fl_lt (lt_build (cs := [.pv (.int .i64 v1.Lo), .pv (.int .i64 v1.Hi)]) rfl st29 rfl (by kernel_rfl)))) (owF (by kernel_rfl) (fo_l [] rfl rfl rfl (by kernel_rfl) (by kernel_rfl) (by kernel_rfl) (gi1 rfl rfl rfl (beT k9)) (fl_lt (lt_load_box rfl ty3 rfl rfl rfl))) (owF (by kernel_rfl) (fo_l [] rfl rfl rfl (by kernel_rfl) (by kernel_rfl) (by kernel_rfl) (gi1 rfl rfl rfl (beT k9)) (fl_lt (lt_fa_box rfl f23_1 ty3 (by decide) rfl))) (owF (by kernel_rfl) (fo_l [] rfl rfl rfl (by kernel_rfl) (by kernel_rfl) (by kernel_rfl) (gi1 rfl rfl rfl (beT k9)) (fl_lt (lt_load_box rfl ty3 rfl rfl rfl))) (owF (by kernel_rfl) (fo_l [] rfl rfl rfl (by kernel_rfl) (by kernel_rfl) (by kernel_rfl) (gi1 rfl rfl rfl (beT k9)) (fl_lt (lt_fa_box rfl f23_0 ty3 (by decide) rfl))) (oE tbok [] 1 (by kernel_rfl) (oL [] rfl (by kernel_rfl) (fl_lt (lt_pickT rfl rfl k4 rfl)) (owF (by kernel_rfl) (fo_l [] rfl rfl rfl (by kernel_rfl) (by kernel_rfl) (by kernel_rfl) (gi1 rfl rfl rfl (beT k4)) (fl_lt (lt_str rfl rfl rfl rfl))) (owF (by kernel_rfl) (fo_l [] rfl rfl rfl (by kernel_rfl) (by kernel_rfl) (by kernel_rfl) (gi1 rfl rfl rfl (beT k4)) (fl_call rfl Tryd.call16 rfl (by kernel_rfl) (by kernel_rfl) (r17_Itv_meets k8))) (owF (by kernel_rfl) (fo_l [] rfl rfl rfl (by kernel_rfl) (by kernel_rfl) (by kernel_rfl) (gi1 rfl rfl rfl (beT k4)) (fl_lt (lt_load_boxA (ys := [.pv (.int .i64 a0.Lo), .pv (.int .i64 a0.Hi)]) rfl ty23 rfl rfl (by kernel_rfl) (by kernel_rfl)))) (owF (by kernel_rfl) (fo_l [] rfl rfl rfl (by kernel_rfl) (by kernel_rfl) (by kernel_rfl) (gi1 rfl rfl rfl (beT k4)) (fl_call rfl Tryd.call15 rfl (by kernel_rfl) (by kernel_rfl) (report_Itv_meets k6))) (owF (by kernel_rfl) (fo_l [] rfl rfl rfl (by kernel_rfl) (by kernel_rfl) (by kernel_rfl) (gi1 rfl rfl rfl (beT k4)) (fl_lt (lt_build (cs := [.pv (.int .i64 a0.Lo), .pv (.int .i64 a0.Hi)]) rfl st29 rfl (by kernel_rfl)))) (owF (by kernel_rfl) (fo_l [] rfl rfl rfl (by kernel_rfl) (by kernel_rfl) (by kernel_rfl) (gi1 rfl rfl rfl (beT k4)) (fl_lt (lt_load_box rfl ty3 rfl rfl rfl))) (owF (by kernel_rfl) (fo_l [] rfl rfl rfl (by kernel_rfl) (by kernel_rfl) (by kernel_rfl) (gi1 rfl rfl rfl (beT k4)) (fl_lt (lt_fa_box rfl f23_1 ty3 (by decide) rfl))) (owF (by kernel_rfl) (fo_l [] rfl rfl rfl (by kernel_rfl) (by kernel_rfl) (by kernel_rfl) (gi1 rfl rfl rfl (beT k4)) (fl_lt (lt_load_box rfl ty3 rfl rfl rfl))) (owF (by kernel_rfl) (fo_l [] rfl rfl rfl (by kernel_rfl) (by kernel_rfl) (by kernel_rfl) (gi1 rfl rfl rfl (beT k4)) (fl_lt (lt_fa_box rfl f23_0 ty3 (by decide) rfl))) (oE tbok [] 1 (by kernel_rfl) (oL [] rfl (by kernel_rfl) (fl_call rfl Tryd.call14 rfl (by kernel_rfl) (by kernel_rfl) (l17_says_meets k3)) trivial)))))))))))))))))))))))))))))))))))) (sub_cons rfl sub_nil) wM ?_
          obtain rfl := retE h
          refine mN ?_
          refine w_cut 0 rfl rfl rfl rfl ?_
          exact wkE (by kernel_rfl) (by kernel_rfl)
      · have h := iteF h k9
        refine ds (t := 21) 13 rfl ?_
        refine ds (t := 22) 14 rfl ?_
        refine ds (t := 23) 15 rfl ?_
        refine ds (t := 24) 16 rfl ?_
        refine ds (t := 25) 17 rfl ?_
        refine ds (t := 26) 18 rfl ?_
        refine ds (t := 27) 19 rfl ?_
        refine ds (t := 28) 20 rfl ?_
        refine ds (t := 29) 21 rfl ?_
        refine dl (t := 30) 22 [.c (.pv (.bool false))] rfl ?_
        refine dl (t := 31) 23 [.c (.pv (.bool false))] rfl ?_
        refine ds (t := 32) 24 rfl ?_
        refine ds (t := 33) 25 rfl ?_
        refine ds (t := 34) 26 rfl ?_
        refine ds (t := 35) 27 rfl ?_
        refine ds (t := 36) 28 rfl ?_
        refine ds (t := 37) 29 rfl ?_
        refine ds (t := 38) 30 rfl ?_
        refine ds (t := 39) 31 rfl ?_
        refine ds (t := 40) 32 rfl ?_
        refine ds (t := 41) 33 rfl ?_
        refine dl (t := 42) 34 [.c (.pv (.bool false))] rfl ?_
        refine dl (t := 4) 35 [.c (.pv (.bool false))] rfl ?_
        refine d_endS (env2 := [(4, [.c (.pv (.bool false))])]) (wm [0, 1, 3, 7, 3, 19, 63, 127, 3, 511, 1023, 2047, 4095, 8191, 16383, 8191, 40959, 131071, 262143, 8191, 1048575, 2097151, 4194303, 8388607, 16777215, 33554431, 16777215, 83886079, 16777215, 285212671, 16777215, 1090519039, 4294967295, 8589934591, 17179869183, 34359738367]) (by kernel_rfl) (by kernel_rfl) (by kernel_rfl) (oE tbok [] 1 (by kernel_rfl) (oL [] rfl (by kernel_rfl) (fl_lt (lt_pickF rfl rfl rfl rfl)) (owF (by kernel_rfl) (fo_s [] rfl rfl rfl (by kernel_rfl) (by kernel_rfl) (by kernel_rfl) (gi1 rfl rfl rfl (beF rfl))) (owF (by kernel_rfl) (fo_s [] rfl rfl rfl (by kernel_rfl) (by kernel_rfl) (by kernel_rfl) (gi1 rfl rfl rfl (beF rfl))) (owF (by kernel_rfl) (fo_s [] rfl rfl rfl (by kernel_rfl) (by kernel_rfl) (by kernel_rfl) (gi1 rfl rfl rfl (beF rfl))) (owF (by kernel_rfl) (fo_s [] rfl rfl rfl (by kernel_rfl) (by kernel_rfl) (by kernel_rfl) (gi1 rfl rfl rfl (beF rfl))) (owF (by kernel_rfl) (fo_s [] rfl rfl rfl (by kernel_rfl) (by kernel_rfl) (by kernel_rfl) (gi1 rfl rfl rfl (beF rfl))) (owF (by kernel_rfl) (fo_s [] rfl rfl rfl (by kernel_rfl) (by kernel_rfl) (by kernel_rfl) (gi1 rfl rfl rfl (beF rfl))) (owF (by kernel_rfl) (fo_s [] rfl rfl rfl (by kernel_rfl) (by kernel_rfl) (by kernel_rfl) (gi1 rfl rfl rfl (beF rfl))) (owF (by kernel_rfl) (fo_s [] rfl rfl rfl (by kernel_rfl) (by kernel_rfl) (by kernel_rfl) (gi1 rfl rfl rfl (beF rfl))) (owF (by kernel_rfl) (fo_s [] rfl rfl rfl (by kernel_rfl) (by kernel_rfl) (by kernel_rfl) (gi1 rfl rfl rfl (beF rfl))) (owF (by kernel_rfl) (fo_s [] rfl rfl rfl (by kernel_rfl) (by kernel_rfl) (by kernel_rfl) (gi1 rfl rfl rfl (beF rfl))) (oE tbok [] 1 (by kernel_rfl) (oL [] rfl (by kernel_rfl) (fl_lt (lt_pickF rfl rfl k9 rfl)) (owF (by kernel_rfl) (fo_s [] rfl rfl rfl (by kernel_rfl) (by kernel_rfl) (by kernel_rfl) (gi1 rfl rfl rfl (beF k9))) (owF (by kernel_rfl) (fo_s [] rfl rfl rfl (by kernel_rfl) (by kernel_rfl) (by kernel_rfl) (gi1 rfl rfl rfl (beF k9))) (owF (by kernel_rfl) (fo_s [] rfl rfl rfl (by kernel_rfl) (by kernel_rfl) (by kernel_rfl) (gi1 rfl rfl rfl (beF k9))) (owF (by kernel_rfl) (fo_s [] rfl rfl rfl (by kernel_rfl) (by kernel_rfl) (by kernel_rfl) (gi1 rfl rfl rfl (beF k9))) (owF (by kernel_rfl) (fo_s [] rfl rfl rfl (by kernel_rfl) (by kernel_rfl) (by kernel_rfl) (gi1 rfl rfl rfl (beF k9))) (owF (by kernel_rfl) (fo_s [] rfl rfl rfl (by kernel_rfl) (by kernel_rfl) (by kernel_rfl) (gi1 rfl rfl rfl (beF k9))) (owF (by kernel_rfl) (fo_s [] rfl rfl rfl (by kernel_rfl) (by kernel_rfl) (by kernel_rfl) (gi1 rfl rfl rfl (beF k9))) (owF (by kernel_rfl) (fo_s [] rfl rfl rfl (by kernel_rfl) (by kernel_rfl) (by kernel_rfl) (gi1 rfl rfl rfl (beF k9))) (owF (by kernel_rfl) (fo_s [] rfl rfl rfl (by kernel_rfl) (by kernel_rfl) (by kernel_rfl) (gi1 rfl rfl rfl (beF k9))) (oE tbok [] 1 (by kernel_rfl) (oL [] rfl (by kernel_rfl) (fl_lt (lt_pickT rfl rfl k4 rfl)) (owF (by kernel_rfl) (fo_l [] rfl rfl rfl (by kernel_rfl) (by kernel_rfl) (by kernel_rfl) (gi1 rfl rfl rfl (beT k4)) (fl_lt (lt_str rfl rfl rfl rfl))) (owF (by kernel_rfl) (fo_l [] rfl rfl rfl (by kernel_rfl) (by kernel_rfl) (by kernel_rfl) (gi1 rfl rfl rfl (beT k4)) (fl_call rfl Tryd.call16 rfl (by kernel_rfl) (by kernel_rfl) (r17_Itv_meets k8))) (owF (by kernel_rfl) (fo_l [] rfl rfl rfl (by kernel_rfl) (by kernel_rfl) (by kernel_rfl) (gi1 rfl rfl rfl (beT k4)) (fl_lt (lt_load_boxA (ys := [.pv (.int .i64 a0.Lo), .pv (.int .i64 a0.Hi)]) rfl ty23 rfl rfl (by kernel_rfl) (by kernel_rfl)))) (owF (by kernel_rfl) (fo_l [] rfl rfl rfl (by kernel_rfl) (by kernel_rfl) (by kernel_rfl) (gi1 rfl rfl rfl (beT k4)) (fl_call rfl Tryd.call15 rfl (by kernel_rfl) (by kernel_rfl) (report_Itv_meets k6))) (owF (by kernel_rfl) (fo_l [] rfl rfl rfl (by kernel_rfl) (by kernel_rfl) (by kernel_rfl) (gi1 rfl rfl rfl (beT k4)) (fl_lt (lt_build (cs := [.pv (.int .i64 a0.Lo), .pv (.int .i64 a0.Hi)]) rfl st29 rfl (by kernel_rfl)))) (owF (by kernel_rfl) (fo_l [] rfl rfl rfl (by kernel_rfl) (by kernel_rfl) (by kernel_rfl) (gi1 rfl rfl rfl (beT k4)) (fl_lt (lt_load_box rfl ty3 rfl rfl rfl))) (owF (by kernel_rfl) (fo_l [] rfl rfl rfl (by kernel_rfl) (by kernel_rfl) (by kernel_rfl) (gi1 rfl rfl rfl (beT k4)) (fl_lt (lt_fa_box rfl f23_1 ty3 (by decide) rfl))) (owF (by kernel_rfl) (fo_l [] rfl rfl rfl (by kernel_rfl) (by kernel_rfl) (by kernel_rfl) (gi1 rfl rfl rfl (beT k4)) (fl_lt (lt_load_box rfl ty3 rfl rfl rfl))) (owF (by kernel_rfl) (fo_l [] rfl rfl rfl (by kernel_rfl) (by kernel_rfl) (by kernel_rfl) (gi1 rfl rfl rfl (beT k4)) (fl_lt (lt_fa_box rfl f23_0 ty3 (by decide) rfl))) (oE tbok [] 1 (by kernel_rfl) (oL [] rfl (by kernel_rfl) (fl_call rfl Tryd.call14 rfl (by kernel_rfl) (by kernel_rfl) (l17_says_meets k3)) trivial)))))))))))))))))))))))))))))))))))) (sub_cons rfl sub_nil) wM ?_
        obtain rfl := retE h
        refine mN ?_
        refine w_cut 0 rfl rfl rfl rfl ?_
        exact wkE (by kernel_rfl) (by kernel_rfl)
    · have h := iteF h k4
      refine ds (t := 10) 2 rfl ?_
      refine ds (t := 11) 3 rfl ?_
      refine ds (t := 12) 4 rfl ?_
      refine ds (t := 13) 5 rfl ?_
      refine ds (t := 14) 6 rfl ?_
      refine ds (t := 15) 7 rfl ?_
      refine ds (t := 16) 8 rfl ?_
      refine ds (t := 17) 9 rfl ?_
      refine ds (t := 18) 10 rfl ?_
      refine dl (t := 19) 11 [.c (.pv (.bool false))] rfl ?_
      refine dl (t := 20) 12 [.c (.pv (.bool false))] rfl ?_
      refine ds (t := 21) 13 rfl ?_
      refine ds (t := 22) 14 rfl ?_
      refine ds (t := 23) 15 rfl ?_
      refine ds (t := 24) 16 rfl ?_
      refine ds (t := 25) 17 rfl ?_
      refine ds (t := 26) 18 rfl ?_
      refine ds (t := 27) 19 rfl ?_
      refine ds (t := 28) 20 rfl ?_
      refine ds (t := 29) 21 rfl ?_
      refine dl (t := 30) 22 [.c (.pv (.bool false))] rfl ?_
      refine dl (t := 31) 23 [.c (.pv (.bool false))] rfl ?_
      refine ds (t := 32) 24 rfl ?_
      refine ds (t := 33) 25 rfl ?_
      refine ds (t := 34) 26 rfl ?_
      refine ds (t := 35) 27 rfl ?_
      refine ds (t := 36) 28 rfl ?_
      refine ds (t := 37) 29 rfl ?_
      refine ds (t := 38) 30 rfl ?_
      refine ds (t := 39) 31 rfl ?_
      refine ds (t := 40) 32 rfl ?_
      refine ds (t := 41) 33 rfl ?_
      refine dl (t := 42) 34 [.c (.pv (.bool false))] rfl ?_
      refine dl (t := 4) 35 [.c (.pv (.bool false))] rfl ?_
      refine d_endS (env2 := [(4, [.c (.pv (.bool false))])]) (wm [0, 1, 3, 7, 3, 19, 63, 127, 3, 511, 1023, 2047, 4095, 8191, 16383, 8191, 40959, 131071, 262143, 8191, 1048575, 2097151, 4194303, 8388607, 16777215, 33554431, 16777215, 83886079, 16777215, 285212671, 16777215, 1090519039, 4294967295, 8589934591, 17179869183, 34359738367]) (by kernel_rfl) (by kernel_rfl) (by kernel_rfl) (oE tbok [] 1 (by kernel_rfl) (oL [] rfl (by kernel_rfl) (fl_lt (lt_pickF rfl rfl rfl rfl)) (owF (by kernel_rfl) (fo_s [] rfl rfl rfl (by kernel_rfl) (by kernel_rfl) (by kernel_rfl) (gi1 rfl rfl rfl (beF rfl))) (owF (by kernel_rfl) (fo_s [] rfl rfl rfl (by kernel_rfl) (by kernel_rfl) (by kernel_rfl) (gi1 rfl rfl rfl (beF rfl))) (owF (by kernel_rfl) (fo_s [] rfl rfl rfl (by kernel_rfl) (by kernel_rfl) (by kernel_rfl) (gi1 rfl rfl rfl (beF rfl))) (owF (by kernel_rfl) (fo_s [] rfl rfl rfl (by kernel_rfl) (by kernel_rfl) (by kernel_rfl) (gi1 rfl rfl rfl (beF rfl))) (owF (by kernel_rfl) (fo_s [] rfl rfl rfl (by kernel_rfl) (by kernel_rfl) (by kernel_rfl) (gi1 rfl rfl rfl (beF rfl))) (owF (by kernel_rfl) (fo_s [] rfl rfl rfl (by kernel_rfl) (by kernel_rfl) (by kernel_rfl) (gi1 rfl rfl rfl (beF rfl))) (owF (by kernel_rfl) (fo_s [] rfl rfl rfl (by kernel_rfl) (by kernel_rfl) (by kernel_rfl) (gi1 rfl rfl rfl (beF rfl))) (owF (by kernel_rfl) (fo_s [] rfl rfl rfl (by kernel_rfl) (by kernel_rfl) (by kernel_rfl) (gi1 rfl rfl rfl (beF rfl))) (owF (by kernel_rfl) (fo_s [] rfl rfl rfl (by kernel_rfl) (by kernel_rfl) (by kernel_rfl) (gi1 rfl rfl rfl (beF rfl))) (owF (by kernel_rfl) (fo_s [] rfl rfl rfl (by kernel_rfl) (by kernel_rfl) (by kernel_rfl) (gi1 rfl rfl rfl (beF rfl))) (oE tbok [] 1 (by kernel_rfl) (oL [] rfl (by kernel_rfl) (fl_lt (lt_pickF rfl rfl rfl rfl)) (owF (by kernel_rfl) (fo_s [] rfl rfl rfl (by kernel_rfl) (by kernel_rfl) (by kernel_rfl) (gi1 rfl rfl rfl (beF rfl))) (owF (by kernel_rfl) (fo_s [] rfl rfl rfl (by kernel_rfl) (by kernel_rfl) (by kernel_rfl) (gi1 rfl rfl rfl (beF rfl))) (owF (by kernel_rfl) (fo_s [] rfl rfl rfl (by kernel_rfl) (by kernel_rfl) (by kernel_rfl) (gi1 rfl rfl rfl (beF rfl))) (owF (by kernel_rfl) (fo_s [] rfl rfl rfl (by kernel_rfl) (by kernel_rfl) (by kernel_rfl) (gi1 rfl rfl rfl (beF rfl))) (owF (by kernel_rfl) (fo_s [] rfl rfl rfl (by kernel_rfl) (by kernel_rfl) (by kernel_rfl) (gi1 rfl rfl rfl (beF rfl))) (owF (by kernel_rfl) (fo_s [] rfl rfl rfl (by kernel_rfl) (by kernel_rfl) (by kernel_rfl) (gi1 rfl rfl rfl (beF rfl))) (owF (by kernel_rfl) (fo_s [] rfl rfl rfl (by kernel_rfl) (by kernel_rfl) (by kernel_rfl) (gi1 rfl rfl rfl (beF rfl))) (owF (by kernel_rfl) (fo_s [] rfl rfl rfl (by kernel_rfl) (by kernel_rfl) (by kernel_rfl) (gi1 rfl rfl rfl (beF rfl))) (owF (by kernel_rfl) (fo_s [] rfl rfl rfl (by kernel_rfl) (by kernel_rfl) (by kernel_rfl) (gi1 rfl rfl rfl (beF rfl))) (oE tbok [] 1 (by kernel_rfl) (oL [] rfl (by kernel_rfl) (fl_lt (lt_pickF rfl rfl k4 rfl)) (owF (by kernel_rfl) (fo_s [] rfl rfl rfl (by kernel_rfl) (by kernel_rfl) (by kernel_rfl) (gi1 rfl rfl rfl (beF k4))) (owF (by kernel_rfl) (fo_s [] rfl rfl rfl (by kernel_rfl) (by kernel_rfl) (by kernel_rfl) (gi1 rfl rfl rfl (beF k4))) (owF (by kernel_rfl) (fo_s [] rfl rfl rfl (by kernel_rfl) (by kernel_rfl) (by kernel_rfl) (gi1 rfl rfl rfl (beF k4))) (owF (by kernel_rfl) (fo_s [] rfl rfl rfl (by kernel_rfl) (by kernel_rfl) (by kernel_rfl) (gi1 rfl rfl rfl (beF k4))) (owF (by kernel_rfl) (fo_s [] rfl rfl rfl (by kernel_rfl) (by kernel_rfl) (by kernel_rfl) (gi1 rfl rfl rfl (beF k4))) (owF (by kernel_rfl) (fo_s [] rfl rfl rfl (by kernel_rfl) (by kernel_rfl) (by kernel_rfl) (gi1 rfl rfl rfl (beF k4))) (owF (by kernel_rfl) (fo_s [] rfl rfl rfl (by kernel_rfl) (by kernel_rfl) (by kernel_rfl) (gi1 rfl rfl rfl (beF k4))) (owF (by kernel_rfl) (fo_s [] rfl rfl rfl (by kernel_rfl) (by kernel_rfl) (by kernel_rfl) (gi1 rfl rfl rfl (beF k4))) (owF (by kernel_rfl) (fo_s [] rfl rfl rfl (by kernel_rfl) (by kernel_rfl) (by kernel_rfl) (gi1 rfl rfl rfl (beF k4))) (oE tbok [] 1 (by kernel_rfl) (oL [] rfl (by kernel_rfl) (fl_call rfl Tryd.call14 rfl (by kernel_rfl) (by kernel_rfl) (l17_says_meets k3)) trivial)))))))))))))))))))))))))))))))))))) (sub_cons rfl sub_nil) wM ?_
      obtain rfl := retE h
      refine mN ?_
      refine w_cut 0 rfl rfl rfl rfl ?_
      exact wkE (by kernel_rfl) (by kernel_rfl)
  · refine then_ ?_
    refine ret_ ?_
    obtain rfl := retE h
    refine rwr (rw_ (.tmp rfl .nil) ?_)
    exact wkE (by kernel_rfl) (by kernel_rfl)

theorem l17_text_meets {a0 : outer_Result} {r : ByteArray} (h : l17_text a0 = some r) : MeetsV Tryd.prog GG 21 [.agg [.pv (.sl (List.map e_sl51 a0.At)), .pv (.sl (List.map e_queue_Elem a0.Elems)), .pv (.sl (List.map e_fix_Alarm a0.Alarms)), .pv (.int .i64 a0.Steps)]] [.c (.pv (.str r))] := by
  refine MeetsS.toV (meetsW_of (st0 := []) (N := 211) r_l17_text o_l17_text r Tryd.func21 rfl rfl rfl (by dsimp only [argEnv]) rfl ?_) rfl
  unfold l17_text at h
  refine seq_ ?_
  refine region_ ?_
  refine B rfl rfl (bir_box rfl rfl rfl) rfl rfl .z ?_
  refine R tbok 1 [2, 1] [(2, [.c (.pv (.str (ByteArray.mk #[])))]), (1, [.c (.box 0 0)])] (by kernel_rfl) ?_
  refine ops_nil ?_
  refine then_ ?_
  refine seq_ ?_
  refine region_ ?_
  refine R tbok 2 [13, 2, 1] [(13, [.c (.pv (.int .i64 a0.Steps))]), (2, [.c (.pv (.str (ByteArray.mk #[])))]), (1, [.c (.box 0 0)])] (by kernel_rfl) ?_
  obtain ⟨v1, k1, h⟩ := bindE h
  refine C rfl rfl (fl_call rfl Tryd.call31 rfl (by kernel_rfl) (by kernel_rfl) (r17_Number_meets k1)) rfl ?_
  obtain ⟨v2, k2, h⟩ := bindE h
  refine L rfl rfl (cat_ rfl rfl rfl k2) rfl ?_
  obtain ⟨v3, k3, h⟩ := bindE h
  refine L rfl rfl (cat_ rfl rfl rfl k3) rfl ?_
  refine R tbok 1 [3, 2, 1] [(3, [.c (.pv (.str v3))]), (2, [.c (.pv (.str (ByteArray.mk #[])))]), (1, [.c (.box 0 0)])] (by kernel_rfl) ?_
  refine ops_nil ?_
  refine then_ ?_
  refine seq_ ?_
  refine seq_ ?_
  refine region_ ?_
  refine R tbok 1 [4, 3, 2, 1] [(4, [.c (.pv (.int .i64 0))]), (3, [.c (.pv (.str v3))]), (2, [.c (.pv (.str (ByteArray.mk #[])))]), (1, [.c (.box 0 0)])] (by kernel_rfl) ?_
  refine ops_nil ?_
  refine then_ ?_
  refine lp_ (Qr := RW Tryd.prog GG Tryd.f21 0 r_l17_text o_l17_text) (l17_text_l1 a0) (fun (x1 : (ByteArray × Int)) => (⟨211, 0, [(1, [.c (.box 0 0)]), (3, [.c (.pv (.str x1.1))]), (4, [.c (.pv (.int .i64 x1.2))])], [some (.box true 55 [.pv (.sl (List.map e_sl51 a0.At)), .pv (.sl (List.map e_queue_Elem a0.Elems)), .pv (.sl (List.map e_fix_Alarm a0.Alarms)), .pv (.int .i64 a0.Steps)])]⟩ : Sx)) (fun (j1 : ByteArray) => (⟨211, 0, [(1, [.c (.box 0 0)]), (3, [.c (.pv (.str j1))])], [some (.box true 55 [.pv (.sl (List.map e_sl51 a0.At)), .pv (.sl (List.map e_queue_Elem a0.Elems)), .pv (.sl (List.map e_fix_Alarm a0.Alarms)), .pv (.int .i64 a0.Steps)])]⟩ : Sx)) (v3, 0) RW.only h wT ?_ (fun x1 o h => ?_) (fun r h s' hs => ?_) (fun j1 h => ?_)
  · refine w_sub (env' := [(1, [.c (.box 0 0)]), (3, [.c (.pv (.str v3))]), (4, [.c (.pv (.int .i64 0))])]) (sub_cons rfl (sub_cons rfl (sub_cons rfl sub_nil))) ?_
    exact wkE (by kernel_rfl) (by kernel_rfl)
  · unfold l17_text_l1 at h
    refine seq_ ?_
    refine seq_ ?_
    refine region_ ?_
    refine R tbok 3 [19, 17, 1, 3, 4] [(19, [.c (.pv (.sl (List.map e_sl51 a0.At)))]), (17, [.c (.pv (.int .i64 x1.2))]), (1, [.c (.box 0 0)]), (3, [.c (.pv (.str x1.1))]), (4, [.c (.pv (.int .i64 x1.2))])] (by kernel_rfl) ?_
    refine L rfl rfl (len_sl (e := e_sl51) rfl u52 rfl) rfl ?_
    refine R tbok 1 [21, 1, 3, 4] [(21, [.c (.pv (.bool (decide (x1.2 < (a0.At.length : Int)))))]), (1, [.c (.box 0 0)]), (3, [.c (.pv (.str x1.1))]), (4, [.c (.pv (.int .i64 x1.2))])] (by kernel_rfl) ?_
    refine ops_nil ?_
    refine then_ ?_
    refine cond_ (b := (decide (x1.2 < (a0.At.length : Int)))) rfl (fun k4 => ?_) (fun k4 => ?_)
    · have h := iteT h k4
      refine skip_ ?_
      refine then_ ?_
      refine seq_ ?_
      refine block_ ?_
      refine seq_ ?_
      refine region_ ?_
      refine R tbok 1 [24, 1, 3, 4] [(24, [.c (.pv (.str x1.1))]), (1, [.c (.box 0 0)]), (3, [.c (.pv (.str x1.1))]), (4, [.c (.pv (.int .i64 x1.2))])] (by kernel_rfl) ?_
      obtain ⟨v4, k5, h⟩ := bindE h
      refine L rfl rfl (cat_ rfl rfl rfl k5) rfl ?_
      refine R tbok 1 [26, 25, 1, 3, 4] [(26, [.c (.pv (.int .i64 x1.2))]), (25, [.c (.pv (.str v4))]), (1, [.c (.box 0 0)]), (3, [.c (.pv (.str x1.1))]), (4, [.c (.pv (.int .i64 x1.2))])] (by kernel_rfl) ?_
      obtain ⟨v5, k6, h⟩ := bindE h
      refine C rfl rfl (fl_call rfl Tryd.call31 rfl (by kernel_rfl) (by kernel_rfl) (r17_Number_meets k6)) rfl ?_
      obtain ⟨v6, k7, h⟩ := bindE h
      refine L rfl rfl (cat_ rfl rfl rfl k7) rfl ?_
      obtain ⟨v7, k8, h⟩ := bindE h
      refine L rfl rfl (cat_ rfl rfl rfl k8) rfl ?_
      refine R tbok 1 [3, 1, 4] [(3, [.c (.pv (.str v7))]), (1, [.c (.box 0 0)]), (4, [.c (.pv (.int .i64 x1.2))])] (by kernel_rfl) ?_
      refine ops_nil ?_
      refine then_ ?_
      refine seq_ ?_
      refine region_ ?_
      refine R tbok 1 [5, 3, 1, 4] [(5, [.c (.pv (.int .i64 0))]), (3, [.c (.pv (.str v7))]), (1, [.c (.box 0 0)]), (4, [.c (.pv (.int .i64 x1.2))])] (by kernel_rfl) ?_
      refine ops_nil ?_
      refine then_ ?_
      refine lp_ (Qr := RW Tryd.prog GG Tryd.f21 0 r_l17_text o_l17_text) (l17_text_l2 a0 x1) (fun (x2 : (ByteArray × Int)) => (⟨211, 0, [(1, [.c (.box 0 0)]), (3, [.c (.pv (.str x2.1))]), (4, [.c (.pv (.int .i64 x1.2))]), (5, [.c (.pv (.int .i64 x2.2))])], [some (.box true 55 [.pv (.sl (List.map e_sl51 a0.At)), .pv (.sl (List.map e_queue_Elem a0.Elems)), .pv (.sl (List.map e_fix_Alarm a0.Alarms)), .pv (.int .i64 a0.Steps)])]⟩ : Sx)) (fun (j2 : ByteArray) => (⟨211, 0, [(1, [.c (.box 0 0)]), (3, [.c (.pv (.str j2))]), (4, [.c (.pv (.int .i64 x1.2))])], [some (.box true 55 [.pv (.sl (List.map e_sl51 a0.At)), .pv (.sl (List.map e_queue_Elem a0.Elems)), .pv (.sl (List.map e_fix_Alarm a0.Alarms)), .pv (.int .i64 a0.Steps)])]⟩ : Sx)) (v7, 0) RW.only h (wB wT) ?_ (fun x2 o h => ?_) (fun r h s' hs => ?_) (fun j2 h => ?_)
      · refine w_sub (env' := [(1, [.c (.box 0 0)]), (3, [.c (.pv (.str v7))]), (4, [.c (.pv (.int .i64 x1.2))]), (5, [.c (.pv (.int .i64 0))])]) (sub_cons rfl (sub_cons rfl (sub_cons rfl (sub_cons rfl sub_nil)))) ?_
        exact wkE (by kernel_rfl) (by kernel_rfl)
      · unfold l17_text_l2 at h
        refine seq_ ?_
        refine seq_ ?_
        refine region_ ?_
        refine R tbok 4 [33, 32, 30, 1, 3, 4, 5] [(33, [.c (.pv (.int .i64 x1.2))]), (32, [.c (.pv (.sl (List.map e_sl51 a0.At)))]), (30, [.c (.pv (.int .i64 x2.2))]), (1, [.c (.box 0 0)]), (3, [.c (.pv (.str x2.1))]), (4, [.c (.pv (.int .i64 x1.2))]), (5, [.c (.pv (.int .i64 x2.2))])] (by kernel_rfl) ?_
        obtain ⟨v8, k9, h⟩ := bindE h
        refine L rfl rfl (ia_sl (e := e_sl51) (y := v8) rfl u52 ty51 rfl rfl k9 rfl) rfl ?_
        refine R tbok 1 [35, 30, 1, 3, 4, 5] [(35, [.c (.pv (.sl (List.map e_trans_State v8)))]), (30, [.c (.pv (.int .i64 x2.2))]), (1, [.c (.box 0 0)]), (3, [.c (.pv (.str x2.1))]), (4, [.c (.pv (.int .i64 x1.2))]), (5, [.c (.pv (.int .i64 x2.2))])] (by kernel_rfl) ?_
        refine L rfl rfl (len_sl (e := e_trans_State) rfl u51 rfl) rfl ?_
        refine R tbok 1 [37, 1, 3, 4, 5] [(37, [.c (.pv (.bool (decide (x2.2 < (v8.length : Int)))))]), (1, [.c (.box 0 0)]), (3, [.c (.pv (.str x2.1))]), (4, [.c (.pv (.int .i64 x1.2))]), (5, [.c (.pv (.int .i64 x2.2))])] (by kernel_rfl) ?_
        refine ops_nil ?_
        refine then_ ?_
        refine cond_ (b := (decide (x2.2 < (v8.length : Int)))) rfl (fun k10 => ?_) (fun k10 => ?_)
        · have h := iteT h k10
          refine skip_ ?_
          refine then_ ?_
          refine seq_ ?_
          refine jn_ (fun (j3 : ByteArray) => (⟨211, 0, [(1, [.c (.box 0 0)]), (3, [.c (.pv (.str j3))]), (4, [.c (.pv (.int .i64 x1.2))]), (5, [.c (.pv (.int .i64 x2.2))])], [some (.box true 55 [.pv (.sl (List.map e_sl51 a0.At)), .pv (.sl (List.map e_queue_Elem a0.Elems)), .pv (.sl (List.map e_fix_Alarm a0.Alarms)), .pv (.int .i64 a0.Steps)])]⟩ : Sx)) h wT (fun o h => ?_) (fun j3 h => ?_)
          · refine block_ ?_
            refine seq_ ?_
            refine region_ ?_
            refine R tbok 3 [42, 41, 1, 3, 4, 5] [(42, [.c (.pv (.int .i64 x1.2))]), (41, [.c (.pv (.sl (List.map e_sl51 a0.At)))]), (1, [.c (.box 0 0)]), (3, [.c (.pv (.str x2.1))]), (4, [.c (.pv (.int .i64 x1.2))]), (5, [.c (.pv (.int .i64 x2.2))])] (by kernel_rfl) ?_
            obtain ⟨v9, k11, h⟩ := bindE h
            refine L rfl rfl (ia_sl (e := e_sl51) (y := v9) rfl u52 ty51 rfl rfl k11 rfl) rfl ?_
            refine R tbok 2 [45, 44, 1, 3, 4, 5] [(45, [.c (.pv (.int .i64 x2.2))]), (44, [.c (.pv (.sl (List.map e_trans_State v9)))]), (1, [.c (.box 0 0)]), (3, [.c (.pv (.str x2.1))]), (4, [.c (.pv (.int .i64 x1.2))]), (5, [.c (.pv (.int .i64 x2.2))])] (by kernel_rfl) ?_
            obtain ⟨v10, k12, h⟩ := bindE h
            refine L rfl rfl (ia_sl (e := e_trans_State) (y := v10) rfl u51 ty47 rfl rfl k12 rfl) rfl ?_
            refine R tbok 1 [47, 1, 3, 4, 5] [(47, [.agg (bs (e_trans_State v10))]), (1, [.c (.box 0 0)]), (3, [.c (.pv (.str x2.1))]), (4, [.c (.pv (.int .i64 x1.2))]), (5, [.c (.pv (.int .i64 x2.2))])] (by kernel_rfl) ?_
            refine B rfl rfl (bir_alloc rfl z47 rfl rfl) rfl rfl (.s .z) ?_
            refine S rfl rfl rfl ty47 (by decide) rfl rfl rfl rfl rfl (.all rfl) (.s .z) ?_
            refine ops_nil ?_
            refine then_ ?_
            refine seq_ ?_
            refine region_ ?_
            refine R tbok 1 [48, 6, 1, 3, 4, 5] [(48, [.c (.pv (.str x2.1))]), (6, [.c (.box 1 0)]), (1, [.c (.box 0 0)]), (3, [.c (.pv (.str x2.1))]), (4, [.c (.pv (.int .i64 x1.2))]), (5, [.c (.pv (.int .i64 x2.2))])] (by kernel_rfl) ?_
            obtain ⟨v11, k13, h⟩ := bindE h
            refine L rfl rfl (cat_ rfl rfl rfl k13) rfl ?_
            refine R tbok 1 [50, 49, 6, 1, 3, 4, 5] [(50, [.c (.pv (.int .i64 x2.2))]), (49, [.c (.pv (.str v11))]), (6, [.c (.box 1 0)]), (1, [.c (.box 0 0)]), (3, [.c (.pv (.str x2.1))]), (4, [.c (.pv (.int .i64 x1.2))]), (5, [.c (.pv (.int .i64 x2.2))])] (by kernel_rfl) ?_
            obtain ⟨v12, k14, h⟩ := bindE h
            refine C rfl rfl (fl_call rfl Tryd.call31 rfl (by kernel_rfl) (by kernel_rfl) (r17_Number_meets k14)) rfl ?_
            obtain ⟨v13, k15, h⟩ := bindE h
            refine L rfl rfl (cat_ rfl rfl rfl k15) rfl ?_
            obtain ⟨v14, k16, h⟩ := bindE h
            refine L rfl rfl (cat_ rfl rfl rfl k16) rfl ?_
            refine R tbok 1 [3, 6, 1, 4, 5] [(3, [.c (.pv (.str v14))]), (6, [.c (.box 1 0)]), (1, [.c (.box 0 0)]), (4, [.c (.pv (.int .i64 x1.2))]), (5, [.c (.pv (.int .i64 x2.2))])] (by kernel_rfl) ?_
            refine ops_nil ?_
            refine then_ ?_
            refine seq_ ?_
            refine seq_ ?_
            refine region_ ?_
            refine R tbok 3 [56, 3, 6, 1, 4, 5] [(56, [.c (.pv (.bool v10.N.None))]), (3, [.c (.pv (.str v14))]), (6, [.c (.box 1 0)]), (1, [.c (.box 0 0)]), (4, [.c (.pv (.int .i64 x1.2))]), (5, [.c (.pv (.int .i64 x2.2))])] (by kernel_rfl) ?_
            refine ops_nil ?_
            refine then_ ?_
            refine cond_ (b := v10.N.None) rfl (fun k17 => ?_) (fun k17 => ?_)
            · have h := iteT h k17
              refine seq_ ?_
              refine region_ ?_
              refine R tbok 1 [57, 3, 6, 1, 4, 5] [(57, [.c (.pv (.str v14))]), (3, [.c (.pv (.str v14))]), (6, [.c (.box 1 0)]), (1, [.c (.box 0 0)]), (4, [.c (.pv (.int .i64 x1.2))]), (5, [.c (.pv (.int .i64 x2.2))])] (by kernel_rfl) ?_
              obtain ⟨v15, k18, h⟩ := bindE h
              refine L rfl rfl (cat_ rfl rfl rfl k18) rfl ?_
              refine R tbok 1 [3, 6, 1, 4, 5] [(3, [.c (.pv (.str v15))]), (6, [.c (.box 1 0)]), (1, [.c (.box 0 0)]), (4, [.c (.pv (.int .i64 x1.2))]), (5, [.c (.pv (.int .i64 x2.2))])] (by kernel_rfl) ?_
              refine ops_nil ?_
              refine then_ ?_
              refine exit_ ?_
              refine tX ?_
              refine bH ?_
              obtain rfl := retE h
              refine mN ?_
              refine w_sub (env' := [(1, [.c (.box 0 0)]), (3, [.c (.pv (.str v15))]), (4, [.c (.pv (.int .i64 x1.2))]), (5, [.c (.pv (.int .i64 x2.2))])]) (sub_cons rfl (sub_cons rfl (sub_cons rfl (sub_cons rfl sub_nil)))) ?_
              refine w_cut 1 rfl rfl rfl rfl ?_
              exact wkE (by kernel_rfl) (by kernel_rfl)
            · have h := iteF h k17
              refine skip_ ?_
              refine then_ ?_
              refine seq_ ?_
              refine jn_ (fun (j4 : ByteArray) => (⟨211, 0, [(1, [.c (.box 0 0)]), (3, [.c (.pv (.str j4))]), (4, [.c (.pv (.int .i64 x1.2))]), (5, [.c (.pv (.int .i64 x2.2))]), (6, [.c (.box 1 0)])], [some (.box true 55 [.pv (.sl (List.map e_sl51 a0.At)), .pv (.sl (List.map e_queue_Elem a0.Elems)), .pv (.sl (List.map e_fix_Alarm a0.Alarms)), .pv (.int .i64 a0.Steps)]), some (.box true 47 (bs (e_trans_State v10)))]⟩ : Sx)) h wT (fun o h => ?_) (fun j4 h => ?_)
              · refine seq_ ?_
                refine region_ ?_
                refine R tbok 3 [61, 3, 6, 1, 4, 5] [(61, [.c (.pv (.sl (List.map e_itv_Itv v10.N.I)))]), (3, [.c (.pv (.str v14))]), (6, [.c (.box 1 0)]), (1, [.c (.box 0 0)]), (4, [.c (.pv (.int .i64 x1.2))]), (5, [.c (.pv (.int .i64 x2.2))])] (by kernel_rfl) ?_
                refine L rfl rfl (len_sl (e := e_itv_Itv) rfl u38 rfl) rfl ?_
                refine R tbok 1 [63, 3, 6, 1, 4, 5] [(63, [.c (.pv (.bool ((v10.N.I.length : Int) == 0)))]), (3, [.c (.pv (.str v14))]), (6, [.c (.box 1 0)]), (1, [.c (.box 0 0)]), (4, [.c (.pv (.int .i64 x1.2))]), (5, [.c (.pv (.int .i64 x2.2))])] (by kernel_rfl) ?_
                refine ops_nil ?_
                refine then_ ?_
                refine cond_ (b := ((v10.N.I.length : Int) == 0)) rfl (fun k19 => ?_) (fun k19 => ?_)
                · have h := iteT h k19
                  refine region_ ?_
                  refine R tbok 1 [64, 3, 6, 1, 4, 5] [(64, [.c (.pv (.str v14))]), (3, [.c (.pv (.str v14))]), (6, [.c (.box 1 0)]), (1, [.c (.box 0 0)]), (4, [.c (.pv (.int .i64 x1.2))]), (5, [.c (.pv (.int .i64 x2.2))])] (by kernel_rfl) ?_
                  obtain ⟨v16, k20, h⟩ := bindE h
                  refine L rfl rfl (cat_ rfl rfl rfl k20) rfl ?_
                  refine R tbok 1 [3, 6, 1, 4, 5] [(3, [.c (.pv (.str v16))]), (6, [.c (.box 1 0)]), (1, [.c (.box 0 0)]), (4, [.c (.pv (.int .i64 x1.2))]), (5, [.c (.pv (.int .i64 x2.2))])] (by kernel_rfl) ?_
                  refine ops_nil ?_
                  obtain rfl := retE h
                  refine mN ?_
                  refine w_sub (env' := [(1, [.c (.box 0 0)]), (3, [.c (.pv (.str v16))]), (4, [.c (.pv (.int .i64 x1.2))]), (5, [.c (.pv (.int .i64 x2.2))]), (6, [.c (.box 1 0)])]) (sub_cons rfl (sub_cons rfl (sub_cons rfl (sub_cons rfl (sub_cons rfl sub_nil))))) ?_
                  exact wkE (by kernel_rfl) (by kernel_rfl)
                · have h := iteF h k19
                  refine skip_ ?_
                  obtain rfl := retE h
                  refine mN ?_
                  refine w_sub (env' := [(1, [.c (.box 0 0)]), (3, [.c (.pv (.str v14))]), (4, [.c (.pv (.int .i64 x1.2))]), (5, [.c (.pv (.int .i64 x2.2))]), (6, [.c (.box 1 0)])]) (sub_cons rfl (sub_cons rfl (sub_cons rfl (sub_cons rfl (sub_cons rfl sub_nil))))) ?_
                  exact wkE (by kernel_rfl) (by kernel_rfl)
              · refine then_ ?_
                refine seq_ ?_
                refine seq_ ?_
                refine region_ ?_
                refine R tbok 1 [7, 1, 3, 4, 5, 6] [(7, [.c (.pv (.int .i64 0))]), (1, [.c (.box 0 0)]), (3, [.c (.pv (.str j4))]), (4, [.c (.pv (.int .i64 x1.2))]), (5, [.c (.pv (.int .i64 x2.2))]), (6, [.c (.box 1 0)])] (by kernel_rfl) ?_
                refine ops_nil ?_
                refine then_ ?_
                refine lp_ (Qr := RW Tryd.prog GG Tryd.f21 0 r_l17_text o_l17_text) (l17_text_l5 v10) (fun (x5 : (ByteArray × Int)) => (⟨211, 0, [(1, [.c (.box 0 0)]), (3, [.c (.pv (.str x5.1))]), (4, [.c (.pv (.int .i64 x1.2))]), (5, [.c (.pv (.int .i64 x2.2))]), (6, [.c (.box 1 0)]), (7, [.c (.pv (.int .i64 x5.2))])], [some (.box true 55 [.pv (.sl (List.map e_sl51 a0.At)), .pv (.sl (List.map e_queue_Elem a0.Elems)), .pv (.sl (List.map e_fix_Alarm a0.Alarms)), .pv (.int .i64 a0.Steps)]), some (.box true 47 (bs (e_trans_State v10)))]⟩ : Sx)) (fun (j5 : ByteArray) => (⟨211, 0, [(1, [.c (.box 0 0)]), (3, [.c (.pv (.str j5))]), (4, [.c (.pv (.int .i64 x1.2))]), (5, [.c (.pv (.int .i64 x2.2))])], [some (.box true 55 [.pv (.sl (List.map e_sl51 a0.At)), .pv (.sl (List.map e_queue_Elem a0.Elems)), .pv (.sl (List.map e_fix_Alarm a0.Alarms)), .pv (.int .i64 a0.Steps)])]⟩ : Sx)) (j4, 0) RW.only h wT ?_ (fun x5 o h => ?_) (fun r h s' hs => ?_) (fun j5 h => ?_)
                · refine w_sub (env' := [(1, [.c (.box 0 0)]), (3, [.c (.pv (.str j4))]), (4, [.c (.pv (.int .i64 x1.2))]), (5, [.c (.pv (.int .i64 x2.2))]), (6, [.c (.box 1 0)]), (7, [.c (.pv (.int .i64 0))])]) (sub_cons rfl (sub_cons rfl (sub_cons rfl (sub_cons rfl (sub_cons rfl (sub_cons rfl sub_nil)))))) ?_
                  exact wkE (by kernel_rfl) (by kernel_rfl)
                · unfold l17_text_l5 at h
                  refine seq_ ?_
                  refine seq_ ?_
                  refine region_ ?_
                  refine R tbok 4 [69, 66, 1, 3, 4, 5, 6, 7] [(69, [.c (.pv (.sl (List.map e_itv_Itv v10.N.I)))]), (66, [.c (.pv (.int .i64 x5.2))]), (1, [.c (.box 0 0)]), (3, [.c (.pv (.str x5.1))]), (4, [.c (.pv (.int .i64 x1.2))]), (5, [.c (.pv (.int .i64 x2.2))]), (6, [.c (.box 1 0)]), (7, [.c (.pv (.int .i64 x5.2))])] (by kernel_rfl) ?_
                  refine L rfl rfl (len_sl (e := e_itv_Itv) rfl u38 rfl) rfl ?_
                  refine R tbok 1 [71, 1, 3, 4, 5, 6, 7] [(71, [.c (.pv (.bool (decide (x5.2 < (v10.N.I.length : Int)))))]), (1, [.c (.box 0 0)]), (3, [.c (.pv (.str x5.1))]), (4, [.c (.pv (.int .i64 x1.2))]), (5, [.c (.pv (.int .i64 x2.2))]), (6, [.c (.box 1 0)]), (7, [.c (.pv (.int .i64 x5.2))])] (by kernel_rfl) ?_
                  refine ops_nil ?_
                  refine then_ ?_
                  refine cond_ (b := (decide (x5.2 < (v10.N.I.length : Int)))) rfl (fun k21 => ?_) (fun k21 => ?_)
                  · have h := iteT h k21
                    refine skip_ ?_
                    refine then_ ?_
                    refine seq_ ?_
                    refine block_ ?_
                    refine seq_ ?_
                    refine jn_ (fun (j6 : ByteArray) => (⟨211, 0, [(1, [.c (.box 0 0)]), (3, [.c (.pv (.str j6))]), (4, [.c (.pv (.int .i64 x1.2))]), (5, [.c (.pv (.int .i64 x2.2))]), (6, [.c (.box 1 0)]), (7, [.c (.pv (.int .i64 x5.2))])], [some (.box true 55 [.pv (.sl (List.map e_sl51 a0.At)), .pv (.sl (List.map e_queue_Elem a0.Elems)), .pv (.sl (List.map e_fix_Alarm a0.Alarms)), .pv (.int .i64 a0.Steps)]), some (.box true 47 (bs (e_trans_State v10)))]⟩ : Sx)) h wT (fun o h => ?_) (fun j6 h => ?_)
                    · refine seq_ ?_
                      refine region_ ?_
                      refine R tbok 2 [75, 1, 3, 4, 5, 6, 7] [(75, [.c (.pv (.bool (decide (x5.2 > 0))))]), (1, [.c (.box 0 0)]), (3, [.c (.pv (.str x5.1))]), (4, [.c (.pv (.int .i64 x1.2))]), (5, [.c (.pv (.int .i64 x2.2))]), (6, [.c (.box 1 0)]), (7, [.c (.pv (.int .i64 x5.2))])] (by kernel_rfl) ?_
                      refine ops_nil ?_
                      refine then_ ?_
                      refine cond_ (b := (decide (x5.2 > 0))) rfl (fun k22 => ?_) (fun k22 => ?_)
                      · have h := iteT h k22
                        refine region_ ?_
                        refine R tbok 1 [76, 1, 3, 4, 5, 6, 7] [(76, [.c (.pv (.str x5.1))]), (1, [.c (.box 0 0)]), (3, [.c (.pv (.str x5.1))]), (4, [.c (.pv (.int .i64 x1.2))]), (5, [.c (.pv (.int .i64 x2.2))]), (6, [.c (.box 1 0)]), (7, [.c (.pv (.int .i64 x5.2))])] (by kernel_rfl) ?_
                        obtain ⟨v17, k23, h⟩ := bindE h
                        refine L rfl rfl (cat_ rfl rfl rfl k23) rfl ?_
                        refine R tbok 1 [3, 1, 4, 5, 6, 7] [(3, [.c (.pv (.str v17))]), (1, [.c (.box 0 0)]), (4, [.c (.pv (.int .i64 x1.2))]), (5, [.c (.pv (.int .i64 x2.2))]), (6, [.c (.box 1 0)]), (7, [.c (.pv (.int .i64 x5.2))])] (by kernel_rfl) ?_
                        refine ops_nil ?_
                        obtain rfl := retE h
                        refine mN ?_
                        refine w_sub (env' := [(1, [.c (.box 0 0)]), (3, [.c (.pv (.str v17))]), (4, [.c (.pv (.int .i64 x1.2))]), (5, [.c (.pv (.int .i64 x2.2))]), (6, [.c (.box 1 0)]), (7, [.c (.pv (.int .i64 x5.2))])]) (sub_cons rfl (sub_cons rfl (sub_cons rfl (sub_cons rfl (sub_cons rfl (sub_cons rfl sub_nil)))))) ?_
                        exact wkE (by kernel_rfl) (by kernel_rfl)
                      · have h := iteF h k22
                        refine skip_ ?_
                        obtain rfl := retE h
                        refine mN ?_
                        refine w_sub (env' := [(1, [.c (.box 0 0)]), (3, [.c (.pv (.str x5.1))]), (4, [.c (.pv (.int .i64 x1.2))]), (5, [.c (.pv (.int .i64 x2.2))]), (6, [.c (.box 1 0)]), (7, [.c (.pv (.int .i64 x5.2))])]) (sub_cons rfl (sub_cons rfl (sub_cons rfl (sub_cons rfl (sub_cons rfl (sub_cons rfl sub_nil)))))) ?_
                        exact wkE (by kernel_rfl) (by kernel_rfl)
                    · refine then_ ?_
                      refine drawn_ mixed ?_
                      refine dl (t := 78) 0 [.c (.pv (.str j6))] rfl ?_
                      refine dl (t := 79) 1 [.c (.box 1 0)] rfl ?_
                      refine dl (t := 80) 2 [.c (.box 1 1)] rfl ?_
                      refine dl (t := 81) 3 [.c (.pv (.sl (List.map e_itv_Itv v10.N.I)))] rfl ?_
                      refine dl (t := 82) 4 [.c (.pv (.int .i64 x5.2))] rfl ?_
                      obtain ⟨v18, k24, h⟩ := bindE h
                      refine dl (t := 83) 5 [.c (.ep [.int .i64 v18.Lo, .int .i64 v18.Hi])] rfl ?_
                      refine dl (t := 84) 6 [.c (.ep [.int .i64 v18.Lo, .int .i64 v18.Hi])] rfl ?_
                      refine dl (t := 85) 7 [.c (.pv (.int .i64 v18.Lo))] rfl ?_
                      refine dl (t := 86) 8 [.c (.box 1 0)] rfl ?_
                      refine dl (t := 87) 9 [.c (.box 1 1)] rfl ?_
                      refine dl (t := 88) 10 [.c (.pv (.sl (List.map e_itv_Itv v10.N.I)))] rfl ?_
                      refine dl (t := 89) 11 [.c (.pv (.int .i64 x5.2))] rfl ?_
                      obtain ⟨v19, k25, h⟩ := bindE h
                      refine dl (t := 90) 12 [.c (.ep [.int .i64 v19.Lo, .int .i64 v19.Hi])] rfl ?_
                      refine dl (t := 91) 13 [.c (.ep [.int .i64 v19.Hi])] rfl ?_
                      refine dl (t := 92) 14 [.c (.pv (.int .i64 v19.Hi))] rfl ?_
                      refine dl (t := 93) 15 [.agg [.pv (.int .i64 v18.Lo), .pv (.int .i64 v19.Hi)]] rfl ?_
                      obtain ⟨v21, k27, h⟩ := bindE h
                      refine dl (t := 94) 16 [.c (.pv (.str v21))] rfl ?_
                      obtain ⟨v22, k28, h⟩ := bindE h
                      refine dl (t := 95) 17 [.c (.pv (.str v22))] rfl ?_
                      refine dl (t := 3) 18 [.c (.pv (.str v22))] rfl ?_
                      refine d_endS (env2 := [(3, [.c (.pv (.str v22))]), (1, [.c (.box 0 0)]), (4, [.c (.pv (.int .i64 x1.2))]), (5, [.c (.pv (.int .i64 x2.2))]), (6, [.c (.box 1 0)]), (7, [.c (.pv (.int .i64 x5.2))])]) (wm [0, 0, 2, 6, 0, 30, 62, 126, 0, 256, 768, 0, 3840, 7936, 16128, 32766, 65534, 131071, 262143]) (by kernel_rfl) (by kernel_rfl) (by kernel_rfl) (oE tbok [] 1 (by kernel_rfl) (oL [] rfl (by kernel_rfl) (fl_lt (cat_ rfl rfl rfl k28)) (oL [] rfl (by kernel_rfl) (fl_call rfl Tryd.call16 rfl (by kernel_rfl) (by kernel_rfl) (r17_Itv_meets k27)) (oL [] rfl (by kernel_rfl) (fl_lt (lt_build (cs := [.pv (.int .i64 v18.Lo), .pv (.int .i64 v19.Hi)]) rfl st23 rfl (by kernel_rfl))) (oE tbok [] 2 (by kernel_rfl) (oL [] rfl (by kernel_rfl) (fl_lt (ia_sl (e := e_itv_Itv) (y := v19) rfl u38 ty29 rfl rfl k25 rfl)) (oE tbok [] 6 (by kernel_rfl) (oL [] rfl (by kernel_rfl) (fl_lt (ia_sl (e := e_itv_Itv) (y := v18) rfl u38 ty29 rfl rfl k24 rfl)) (oE tbok [] 5 (by kernel_rfl) trivial))))))))) (sub_cons rfl (sub_cons rfl (sub_cons rfl (sub_cons rfl (sub_cons rfl (sub_cons rfl sub_nil)))))) (wB wT) ?_
                      refine bN ?_
                      refine then_ ?_
                      refine region_ ?_
                      refine R tbok 3 [7, 3, 1, 4, 5, 6] [(7, [.c (.pv (.int .i64 (IntKind.i64.wrap (x5.2 + 1))))]), (3, [.c (.pv (.str v22))]), (1, [.c (.box 0 0)]), (4, [.c (.pv (.int .i64 x1.2))]), (5, [.c (.pv (.int .i64 x2.2))]), (6, [.c (.box 1 0)])] (by kernel_rfl) ?_
                      refine ops_nil ?_
                      obtain rfl := retE h
                      refine lN ?_
                      refine w_sub (env' := [(1, [.c (.box 0 0)]), (3, [.c (.pv (.str v22))]), (4, [.c (.pv (.int .i64 x1.2))]), (5, [.c (.pv (.int .i64 x2.2))]), (6, [.c (.box 1 0)]), (7, [.c (.pv (.int .i64 (IntKind.i64.wrap (x5.2 + 1))))])]) (sub_cons rfl (sub_cons rfl (sub_cons rfl (sub_cons rfl (sub_cons rfl (sub_cons rfl sub_nil)))))) ?_
                      exact wkE (by kernel_rfl) (by kernel_rfl)
                  · have h := iteF h k21
                    refine exit_ ?_
                    refine tX ?_
                    obtain rfl := retE h
                    refine lX ?_
                    refine w_sub (env' := [(1, [.c (.box 0 0)]), (3, [.c (.pv (.str x5.1))]), (4, [.c (.pv (.int .i64 x1.2))]), (5, [.c (.pv (.int .i64 x2.2))])]) (sub_cons rfl (sub_cons rfl (sub_cons rfl (sub_cons rfl sub_nil)))) ?_
                    refine w_cut 1 rfl rfl rfl rfl ?_
                    exact wkE (by kernel_rfl) (by kernel_rfl)
                · cases h
                · have h := elimR h
                  refine then_ ?_
                  refine region_ ?_
                  refine R tbok 1 [96, 1, 3, 4, 5] [(96, [.c (.pv (.str j5))]), (1, [.c (.box 0 0)]), (3, [.c (.pv (.str j5))]), (4, [.c (.pv (.int .i64 x1.2))]), (5, [.c (.pv (.int .i64 x2.2))])] (by kernel_rfl) ?_
                  obtain ⟨v23, k29, h⟩ := bindE h
                  refine L rfl rfl (cat_ rfl rfl rfl k29) rfl ?_
                  refine R tbok 1 [3, 1, 4, 5] [(3, [.c (.pv (.str v23))]), (1, [.c (.box 0 0)]), (4, [.c (.pv (.int .i64 x1.2))]), (5, [.c (.pv (.int .i64 x2.2))])] (by kernel_rfl) ?_
                  refine ops_nil ?_
                  refine bN ?_
                  obtain rfl := retE h
                  refine mN ?_
                  refine w_sub (env' := [(1, [.c (.box 0 0)]), (3, [.c (.pv (.str v23))]), (4, [.c (.pv (.int .i64 x1.2))]), (5, [.c (.pv (.int .i64 x2.2))])]) (sub_cons rfl (sub_cons rfl (sub_cons rfl (sub_cons rfl sub_nil)))) ?_
                  exact wkE (by kernel_rfl) (by kernel_rfl)
          · refine then_ ?_
            refine region_ ?_
            refine R tbok 3 [5, 1, 3, 4] [(5, [.c (.pv (.int .i64 (IntKind.i64.wrap (x2.2 + 1))))]), (1, [.c (.box 0 0)]), (3, [.c (.pv (.str j3))]), (4, [.c (.pv (.int .i64 x1.2))])] (by kernel_rfl) ?_
            refine ops_nil ?_
            obtain rfl := retE h
            refine lN ?_
            refine w_sub (env' := [(1, [.c (.box 0 0)]), (3, [.c (.pv (.str j3))]), (4, [.c (.pv (.int .i64 x1.2))]), (5, [.c (.pv (.int .i64 (IntKind.i64.wrap (x2.2 + 1))))])]) (sub_cons rfl (sub_cons rfl (sub_cons rfl (sub_cons rfl sub_nil)))) ?_
            exact wkE (by kernel_rfl) (by kernel_rfl)
        · have h := iteF h k10
          refine exit_ ?_
          refine tX ?_
          obtain rfl := retE h
          refine lX ?_
          refine w_sub (env' := [(1, [.c (.box 0 0)]), (3, [.c (.pv (.str x2.1))]), (4, [.c (.pv (.int .i64 x1.2))])]) (sub_cons rfl (sub_cons rfl (sub_cons rfl sub_nil))) ?_
          exact wkE (by kernel_rfl) (by kernel_rfl)
      · cases h
      · have h := elimR h
        refine bN ?_
        refine then_ ?_
        refine region_ ?_
        refine R tbok 3 [4, 1, 3] [(4, [.c (.pv (.int .i64 (IntKind.i64.wrap (x1.2 + 1))))]), (1, [.c (.box 0 0)]), (3, [.c (.pv (.str j2))])] (by kernel_rfl) ?_
        refine ops_nil ?_
        obtain rfl := retE h
        refine lN ?_
        refine w_sub (env' := [(1, [.c (.box 0 0)]), (3, [.c (.pv (.str j2))]), (4, [.c (.pv (.int .i64 (IntKind.i64.wrap (x1.2 + 1))))])]) (sub_cons rfl (sub_cons rfl (sub_cons rfl sub_nil))) ?_
        exact wkE (by kernel_rfl) (by kernel_rfl)
    · have h := iteF h k4
      refine exit_ ?_
      refine tX ?_
      obtain rfl := retE h
      refine lX ?_
      refine w_sub (env' := [(1, [.c (.box 0 0)]), (3, [.c (.pv (.str x1.1))])]) (sub_cons rfl (sub_cons rfl sub_nil)) ?_
      exact wkE (by kernel_rfl) (by kernel_rfl)
  · cases h
  · have h := elimR h
    refine then_ ?_
    refine seq_ ?_
    refine seq_ ?_
    refine region_ ?_
    refine R tbok 1 [8, 1, 3] [(8, [.c (.pv (.int .i64 0))]), (1, [.c (.box 0 0)]), (3, [.c (.pv (.str j1))])] (by kernel_rfl) ?_
    refine ops_nil ?_
    refine then_ ?_
    refine lp_ (Qr := RW Tryd.prog GG Tryd.f21 0 r_l17_text o_l17_text) (l17_text_l7 a0) (fun (x7 : (ByteArray × Int)) => (⟨211, 0, [(1, [.c (.box 0 0)]), (3, [.c (.pv (.str x7.1))]), (8, [.c (.pv (.int .i64 x7.2))])], [some (.box true 55 [.pv (.sl (List.map e_sl51 a0.At)), .pv (.sl (List.map e_queue_Elem a0.Elems)), .pv (.sl (List.map e_fix_Alarm a0.Alarms)), .pv (.int .i64 a0.Steps)])]⟩ : Sx)) (fun (j7 : ByteArray) => (⟨211, 0, [(1, [.c (.box 0 0)]), (3, [.c (.pv (.str j7))])], [some (.box true 55 [.pv (.sl (List.map e_sl51 a0.At)), .pv (.sl (List.map e_queue_Elem a0.Elems)), .pv (.sl (List.map e_fix_Alarm a0.Alarms)), .pv (.int .i64 a0.Steps)])]⟩ : Sx)) (j1, 0) RW.only h wT ?_ (fun x7 o h => ?_) (fun r h s' hs => ?_) (fun j7 h => ?_)
    · refine w_sub (env' := [(1, [.c (.box 0 0)]), (3, [.c (.pv (.str j1))]), (8, [.c (.pv (.int .i64 0))])]) (sub_cons rfl (sub_cons rfl (sub_cons rfl sub_nil))) ?_
      exact wkE (by kernel_rfl) (by kernel_rfl)
    · unfold l17_text_l7 at h
      refine seq_ ?_
      refine seq_ ?_
      refine region_ ?_
      refine R tbok 3 [100, 98, 1, 3, 8] [(100, [.c (.pv (.sl (List.map e_queue_Elem a0.Elems)))]), (98, [.c (.pv (.int .i64 x7.2))]), (1, [.c (.box 0 0)]), (3, [.c (.pv (.str x7.1))]), (8, [.c (.pv (.int .i64 x7.2))])] (by kernel_rfl) ?_
      refine L rfl rfl (len_sl (e := e_queue_Elem) rfl u53 rfl) rfl ?_
      refine R tbok 1 [102, 1, 3, 8] [(102, [.c (.pv (.bool (decide (x7.2 < (a0.Elems.length : Int)))))]), (1, [.c (.box 0 0)]), (3, [.c (.pv (.str x7.1))]), (8, [.c (.pv (.int .i64 x7.2))])] (by kernel_rfl) ?_
      refine ops_nil ?_
      refine then_ ?_
      refine cond_ (b := (decide (x7.2 < (a0.Elems.length : Int)))) rfl (fun k30 => ?_) (fun k30 => ?_)
      · have h := iteT h k30
        refine skip_ ?_
        refine then_ ?_
        refine seq_ ?_
        refine block_ ?_
        refine seq_ ?_
        refine region_ ?_
        refine R tbok 3 [107, 106, 1, 3, 8] [(107, [.c (.pv (.int .i64 x7.2))]), (106, [.c (.pv (.sl (List.map e_queue_Elem a0.Elems)))]), (1, [.c (.box 0 0)]), (3, [.c (.pv (.str x7.1))]), (8, [.c (.pv (.int .i64 x7.2))])] (by kernel_rfl) ?_
        obtain ⟨v24, k31, h⟩ := bindE h
        refine L rfl rfl (ia_sl (e := e_queue_Elem) (y := v24) rfl u53 ty50 rfl rfl k31 rfl) rfl ?_
        refine R tbok 1 [109, 1, 3, 8] [(109, [.agg [.pv (.int .i64 v24.Len.Lo), .pv (.int .i64 v24.Len.Hi), .pv (.sl (List.map e_itv_Itv v24.Vals))]]), (1, [.c (.box 0 0)]), (3, [.c (.pv (.str x7.1))]), (8, [.c (.pv (.int .i64 x7.2))])] (by kernel_rfl) ?_
        refine B rfl rfl (bir_alloc rfl z50 rfl rfl) rfl rfl (.s .z) ?_
        refine S rfl rfl rfl ty50 (by decide) rfl rfl rfl rfl rfl (.all rfl) (.s .z) ?_
        refine ops_nil ?_
        refine then_ ?_
        refine seq_ ?_
        refine drawn_ mixed ?_
        refine dl (t := 110) 0 [.c (.pv (.str x7.1))] rfl ?_
        obtain ⟨v25, k32, h⟩ := bindE h
        refine dl (t := 111) 1 [.c (.pv (.str v25))] rfl ?_
        refine dl (t := 112) 2 [.c (.pv (.int .i64 x7.2))] rfl ?_
        obtain ⟨v27, k34, h⟩ := bindE h
        refine dl (t := 113) 3 [.c (.pv (.str v27))] rfl ?_
        obtain ⟨v28, k35, h⟩ := bindE h
        refine dl (t := 114) 4 [.c (.pv (.str v28))] rfl ?_
        obtain ⟨v29, k36, h⟩ := bindE h
        refine dl (t := 115) 5 [.c (.pv (.str v29))] rfl ?_
        refine dl (t := 116) 6 [.c (.box 1 0)] rfl ?_
        refine dl (t := 117) 7 [.c (.box 1 0)] rfl ?_
        refine dl (t := 118) 8 [.c (.pv (.int .i64 v24.Len.Lo))] rfl ?_
        refine dl (t := 119) 9 [.c (.box 1 0)] rfl ?_
        refine dl (t := 120) 10 [.c (.box 1 1)] rfl ?_
        refine dl (t := 121) 11 [.c (.pv (.int .i64 v24.Len.Hi))] rfl ?_
        refine dl (t := 122) 12 [.agg [.pv (.int .i64 v24.Len.Lo), .pv (.int .i64 v24.Len.Hi)]] rfl ?_
        obtain ⟨v31, k38, h⟩ := bindE h
        refine dl (t := 123) 13 [.c (.pv (.str v31))] rfl ?_
        obtain ⟨v32, k39, h⟩ := bindE h
        refine dl (t := 124) 14 [.c (.pv (.str v32))] rfl ?_
        obtain ⟨v33, k40, h⟩ := bindE h
        refine dl (t := 125) 15 [.c (.pv (.str v33))] rfl ?_
        refine dl (t := 3) 16 [.c (.pv (.str v33))] rfl ?_
        refine d_endS (env2 := [(3, [.c (.pv (.str v33))]), (9, [.c (.box 1 0)]), (1, [.c (.box 0 0)]), (8, [.c (.pv (.int .i64 x7.2))])]) (wm [0, 1, 0, 4, 15, 31, 0, 64, 192, 0, 512, 1536, 4032, 8140, 16383, 32767, 65535]) (by kernel_rfl) (by kernel_rfl) (by kernel_rfl) (oE tbok [] 1 (by kernel_rfl) (oL [] rfl (by kernel_rfl) (fl_lt (cat_ rfl rfl rfl k40)) (oL [] rfl (by kernel_rfl) (fl_lt (cat_ rfl rfl rfl k39)) (oL [] rfl (by kernel_rfl) (fl_call rfl Tryd.call16 rfl (by kernel_rfl) (by kernel_rfl) (r17_Itv_meets k38)) (oL [] rfl (by kernel_rfl) (fl_lt (lt_build (cs := [.pv (.int .i64 v24.Len.Lo), .pv (.int .i64 v24.Len.Hi)]) rfl st23 rfl (by kernel_rfl))) (oE tbok [] 6 (by kernel_rfl) (oL [] rfl (by kernel_rfl) (fl_lt (cat_ rfl rfl rfl k36)) (oL [] rfl (by kernel_rfl) (fl_lt (cat_ rfl rfl rfl k35)) (oL [] rfl (by kernel_rfl) (fl_call rfl Tryd.call31 rfl (by kernel_rfl) (by kernel_rfl) (r17_Number_meets k34)) (oE tbok [] 1 (by kernel_rfl) (oL [] rfl (by kernel_rfl) (fl_lt (cat_ rfl rfl rfl k32)) (oE tbok [] 1 (by kernel_rfl) trivial)))))))))))) (sub_cons rfl (sub_cons rfl (sub_cons rfl (sub_cons rfl sub_nil)))) wT ?_
        refine then_ ?_
        refine seq_ ?_
        refine seq_ ?_
        refine region_ ?_
        refine R tbok 1 [10, 3, 9, 1, 8] [(10, [.c (.pv (.int .i64 0))]), (3, [.c (.pv (.str v33))]), (9, [.c (.box 1 0)]), (1, [.c (.box 0 0)]), (8, [.c (.pv (.int .i64 x7.2))])] (by kernel_rfl) ?_
        refine ops_nil ?_
        refine then_ ?_
        refine lp_ (Qr := RW Tryd.prog GG Tryd.f21 0 r_l17_text o_l17_text) (l17_text_l8 v24) (fun (x8 : (ByteArray × Int)) => (⟨211, 0, [(1, [.c (.box 0 0)]), (3, [.c (.pv (.str x8.1))]), (8, [.c (.pv (.int .i64 x7.2))]), (9, [.c (.box 1 0)]), (10, [.c (.pv (.int .i64 x8.2))])], [some (.box true 55 [.pv (.sl (List.map e_sl51 a0.At)), .pv (.sl (List.map e_queue_Elem a0.Elems)), .pv (.sl (List.map e_fix_Alarm a0.Alarms)), .pv (.int .i64 a0.Steps)]), some (.box true 50 [.pv (.int .i64 v24.Len.Lo), .pv (.int .i64 v24.Len.Hi), .pv (.sl (List.map e_itv_Itv v24.Vals))])]⟩ : Sx)) (fun (j8 : ByteArray) => (⟨211, 0, [(1, [.c (.box 0 0)]), (3, [.c (.pv (.str j8))]), (8, [.c (.pv (.int .i64 x7.2))])], [some (.box true 55 [.pv (.sl (List.map e_sl51 a0.At)), .pv (.sl (List.map e_queue_Elem a0.Elems)), .pv (.sl (List.map e_fix_Alarm a0.Alarms)), .pv (.int .i64 a0.Steps)])]⟩ : Sx)) (v33, 0) RW.only h wT ?_ (fun x8 o h => ?_) (fun r h s' hs => ?_) (fun j8 h => ?_)
        · refine w_sub (env' := [(1, [.c (.box 0 0)]), (3, [.c (.pv (.str v33))]), (8, [.c (.pv (.int .i64 x7.2))]), (9, [.c (.box 1 0)]), (10, [.c (.pv (.int .i64 0))])]) (sub_cons rfl (sub_cons rfl (sub_cons rfl (sub_cons rfl (sub_cons rfl sub_nil))))) ?_
          exact wkE (by kernel_rfl) (by kernel_rfl)
        · unfold l17_text_l8 at h
          refine seq_ ?_
          refine seq_ ?_
          refine region_ ?_
          refine R tbok 3 [128, 126, 1, 3, 8, 9, 10] [(128, [.c (.pv (.sl (List.map e_itv_Itv v24.Vals)))]), (126, [.c (.pv (.int .i64 x8.2))]), (1, [.c (.box 0 0)]), (3, [.c (.pv (.str x8.1))]), (8, [.c (.pv (.int .i64 x7.2))]), (9, [.c (.box 1 0)]), (10, [.c (.pv (.int .i64 x8.2))])] (by kernel_rfl) ?_
          refine L rfl rfl (len_sl (e := e_itv_Itv) rfl u38 rfl) rfl ?_
          refine R tbok 1 [130, 1, 3, 8, 9, 10] [(130, [.c (.pv (.bool (decide (x8.2 < (v24.Vals.length : Int)))))]), (1, [.c (.box 0 0)]), (3, [.c (.pv (.str x8.1))]), (8, [.c (.pv (.int .i64 x7.2))]), (9, [.c (.box 1 0)]), (10, [.c (.pv (.int .i64 x8.2))])] (by kernel_rfl) ?_
          refine ops_nil ?_
          refine then_ ?_
          refine cond_ (b := (decide (x8.2 < (v24.Vals.length : Int)))) rfl (fun k41 => ?_) (fun k41 => ?_)
          · have h := iteT h k41
            refine skip_ ?_
            refine then_ ?_
            refine seq_ ?_
            refine jn_ (fun (j9 : ByteArray) => (⟨211, 0, [(1, [.c (.box 0 0)]), (3, [.c (.pv (.str j9))]), (8, [.c (.pv (.int .i64 x7.2))]), (9, [.c (.box 1 0)]), (10, [.c (.pv (.int .i64 x8.2))])], [some (.box true 55 [.pv (.sl (List.map e_sl51 a0.At)), .pv (.sl (List.map e_queue_Elem a0.Elems)), .pv (.sl (List.map e_fix_Alarm a0.Alarms)), .pv (.int .i64 a0.Steps)]), some (.box true 50 [.pv (.int .i64 v24.Len.Lo), .pv (.int .i64 v24.Len.Hi), .pv (.sl (List.map e_itv_Itv v24.Vals))])]⟩ : Sx)) h wT (fun o h => ?_) (fun j9 h => ?_)
            · refine block_ ?_
              refine seq_ ?_
              refine drawn_ mixed ?_
              refine dl (t := 133) 0 [.c (.box 1 2)] rfl ?_
              refine dl (t := 134) 1 [.c (.pv (.sl (List.map e_itv_Itv v24.Vals)))] rfl ?_
              refine dl (t := 135) 2 [.c (.pv (.int .i64 x8.2))] rfl ?_
              obtain ⟨v34, k42, h⟩ := bindE h
              refine dl (t := 136) 3 [.c (.ep [.int .i64 v34.Lo, .int .i64 v34.Hi])] rfl ?_
              refine dl (t := 137) 4 [.c (.ep [.int .i64 v34.Lo, .int .i64 v34.Hi])] rfl ?_
              refine dl (t := 138) 5 [.c (.pv (.int .i64 v34.Lo))] rfl ?_
              refine dl (t := 139) 6 [.c (.box 1 2)] rfl ?_
              refine dl (t := 140) 7 [.c (.pv (.sl (List.map e_itv_Itv v24.Vals)))] rfl ?_
              refine dl (t := 141) 8 [.c (.pv (.int .i64 x8.2))] rfl ?_
              obtain ⟨v35, k43, h⟩ := bindE h
              refine dl (t := 142) 9 [.c (.ep [.int .i64 v35.Lo, .int .i64 v35.Hi])] rfl ?_
              refine dl (t := 143) 10 [.c (.ep [.int .i64 v35.Hi])] rfl ?_
              refine dl (t := 144) 11 [.c (.pv (.int .i64 v35.Hi))] rfl ?_
              refine dl (t := 145) 12 [.c (.pv (.bool (decide (v34.Lo ≤ v35.Hi))))] rfl ?_
              refine d_endS (env2 := [(145, [.c (.pv (.bool (decide (v34.Lo ≤ v35.Hi))))]), (1, [.c (.box 0 0)]), (3, [.c (.pv (.str x8.1))]), (8, [.c (.pv (.int .i64 x7.2))]), (9, [.c (.box 1 0)]), (10, [.c (.pv (.int .i64 x8.2))])]) (wm [0, 1, 0, 7, 15, 31, 0, 64, 0, 448, 960, 1984, 4095]) (by kernel_rfl) (by kernel_rfl) (by kernel_rfl) (oE tbok [] 3 (by kernel_rfl) (oL [] rfl (by kernel_rfl) (fl_lt (ia_sl (e := e_itv_Itv) (y := v35) rfl u38 ty29 rfl rfl k43 rfl)) (oE tbok [] 5 (by kernel_rfl) (oL [] rfl (by kernel_rfl) (fl_lt (ia_sl (e := e_itv_Itv) (y := v34) rfl u38 ty29 rfl rfl k42 rfl)) (oE tbok [] 3 (by kernel_rfl) trivial))))) (sub_cons rfl (sub_cons rfl (sub_cons rfl (sub_cons rfl (sub_cons rfl (sub_cons rfl sub_nil)))))) wT ?_
              refine then_ ?_
              refine cond_ (b := (decide (v34.Lo ≤ v35.Hi))) rfl (fun k44 => ?_) (fun k44 => ?_)
              · have h := iteT h k44
                refine drawn_ mixed ?_
                refine dl (t := 146) 0 [.c (.pv (.str x8.1))] rfl ?_
                obtain ⟨v36, k45, h⟩ := bindE h
                refine dl (t := 147) 1 [.c (.pv (.str v36))] rfl ?_
                refine dl (t := 148) 2 [.c (.pv (.int .i64 x8.2))] rfl ?_
                obtain ⟨v38, k47, h⟩ := bindE h
                refine dl (t := 149) 3 [.c (.pv (.str v38))] rfl ?_
                obtain ⟨v39, k48, h⟩ := bindE h
                refine dl (t := 150) 4 [.c (.pv (.str v39))] rfl ?_
                obtain ⟨v40, k49, h⟩ := bindE h
                refine dl (t := 151) 5 [.c (.pv (.str v40))] rfl ?_
                refine dl (t := 152) 6 [.c (.box 1 2)] rfl ?_
                refine dl (t := 153) 7 [.c (.pv (.sl (List.map e_itv_Itv v24.Vals)))] rfl ?_
                refine dl (t := 154) 8 [.c (.pv (.int .i64 x8.2))] rfl ?_
                obtain ⟨v41, k50, h⟩ := bindE h
                refine dl (t := 155) 9 [.c (.ep [.int .i64 v41.Lo, .int .i64 v41.Hi])] rfl ?_
                refine dl (t := 156) 10 [.c (.ep [.int .i64 v41.Lo, .int .i64 v41.Hi])] rfl ?_
                refine dl (t := 157) 11 [.c (.pv (.int .i64 v41.Lo))] rfl ?_
                refine dl (t := 158) 12 [.c (.box 1 2)] rfl ?_
                refine dl (t := 159) 13 [.c (.pv (.sl (List.map e_itv_Itv v24.Vals)))] rfl ?_
                refine dl (t := 160) 14 [.c (.pv (.int .i64 x8.2))] rfl ?_
                obtain ⟨v42, k51, h⟩ := bindE h
                refine dl (t := 161) 15 [.c (.ep [.int .i64 v42.Lo, .int .i64 v42.Hi])] rfl ?_
                refine dl (t := 162) 16 [.c (.ep [.int .i64 v42.Hi])] rfl ?_
                refine dl (t := 163) 17 [.c (.pv (.int .i64 v42.Hi))] rfl ?_
                refine dl (t := 164) 18 [.agg [.pv (.int .i64 v41.Lo), .pv (.int .i64 v42.Hi)]] rfl ?_
                obtain ⟨v44, k53, h⟩ := bindE h
                refine dl (t := 165) 19 [.c (.pv (.str v44))] rfl ?_
                obtain ⟨v45, k54, h⟩ := bindE h
                refine dl (t := 166) 20 [.c (.pv (.str v45))] rfl ?_
                refine dl (t := 3) 21 [.c (.pv (.str v45))] rfl ?_
                refine d_endS (env2 := [(3, [.c (.pv (.str v45))]), (1, [.c (.box 0 0)]), (8, [.c (.pv (.int .i64 x7.2))]), (9, [.c (.box 1 0)]), (10, [.c (.pv (.int .i64 x8.2))])]) (wm [0, 1, 0, 4, 15, 31, 0, 64, 0, 448, 960, 1984, 0, 4096, 0, 28672, 61440, 126976, 262080, 524236, 1048575, 2097151]) (by kernel_rfl) (by kernel_rfl) (by kernel_rfl) (oE tbok [] 1 (by kernel_rfl) (oL [] rfl (by kernel_rfl) (fl_lt (cat_ rfl rfl rfl k54)) (oL [] rfl (by kernel_rfl) (fl_call rfl Tryd.call16 rfl (by kernel_rfl) (by kernel_rfl) (r17_Itv_meets k53)) (oL [] rfl (by kernel_rfl) (fl_lt (lt_build (cs := [.pv (.int .i64 v41.Lo), .pv (.int .i64 v42.Hi)]) rfl st23 rfl (by kernel_rfl))) (oE tbok [] 2 (by kernel_rfl) (oL [] rfl (by kernel_rfl) (fl_lt (ia_sl (e := e_itv_Itv) (y := v42) rfl u38 ty29 rfl rfl k51 rfl)) (oE tbok [] 5 (by kernel_rfl) (oL [] rfl (by kernel_rfl) (fl_lt (ia_sl (e := e_itv_Itv) (y := v41) rfl u38 ty29 rfl rfl k50 rfl)) (oE tbok [] 3 (by kernel_rfl) (oL [] rfl (by kernel_rfl) (fl_lt (cat_ rfl rfl rfl k49)) (oL [] rfl (by kernel_rfl) (fl_lt (cat_ rfl rfl rfl k48)) (oL [] rfl (by kernel_rfl) (fl_call rfl Tryd.call31 rfl (by kernel_rfl) (by kernel_rfl) (r17_Number_meets k47)) (oE tbok [] 1 (by kernel_rfl) (oL [] rfl (by kernel_rfl) (fl_lt (cat_ rfl rfl rfl k45)) (oE tbok [] 1 (by kernel_rfl) trivial))))))))))))))) (sub_cons rfl (sub_cons rfl (sub_cons rfl (sub_cons rfl (sub_cons rfl sub_nil))))) (wB wM) ?_
                refine bN ?_
                obtain rfl := retE h
                refine mN ?_
                refine w_sub (env' := [(1, [.c (.box 0 0)]), (3, [.c (.pv (.str v45))]), (8, [.c (.pv (.int .i64 x7.2))]), (9, [.c (.box 1 0)]), (10, [.c (.pv (.int .i64 x8.2))])]) (sub_cons rfl (sub_cons rfl (sub_cons rfl (sub_cons rfl (sub_cons rfl sub_nil))))) ?_
                exact wkE (by kernel_rfl) (by kernel_rfl)
              · have h := iteF h k44
                refine skip_ ?_
                refine bN ?_
                obtain rfl := retE h
                refine mN ?_
                refine w_sub (env' := [(1, [.c (.box 0 0)]), (3, [.c (.pv (.str x8.1))]), (8, [.c (.pv (.int .i64 x7.2))]), (9, [.c (.box 1 0)]), (10, [.c (.pv (.int .i64 x8.2))])]) (sub_cons rfl (sub_cons rfl (sub_cons rfl (sub_cons rfl (sub_cons rfl sub_nil))))) ?_
                exact wkE (by kernel_rfl) (by kernel_rfl)
            · refine then_ ?_
              refine region_ ?_
              refine R tbok 3 [10, 1, 3, 8, 9] [(10, [.c (.pv (.int .i64 (IntKind.i64.wrap (x8.2 + 1))))]), (1, [.c (.box 0 0)]), (3, [.c (.pv (.str j9))]), (8, [.c (.pv (.int .i64 x7.2))]), (9, [.c (.box 1 0)])] (by kernel_rfl) ?_
              refine ops_nil ?_
              obtain rfl := retE h
              refine lN ?_
              refine w_sub (env' := [(1, [.c (.box 0 0)]), (3, [.c (.pv (.str j9))]), (8, [.c (.pv (.int .i64 x7.2))]), (9, [.c (.box 1 0)]), (10, [.c (.pv (.int .i64 (IntKind.i64.wrap (x8.2 + 1))))])]) (sub_cons rfl (sub_cons rfl (sub_cons rfl (sub_cons rfl (sub_cons rfl sub_nil))))) ?_
              exact wkE (by kernel_rfl) (by kernel_rfl)
          · have h := iteF h k41
            refine exit_ ?_
            refine tX ?_
            obtain rfl := retE h
            refine lX ?_
            refine w_sub (env' := [(1, [.c (.box 0 0)]), (3, [.c (.pv (.str x8.1))]), (8, [.c (.pv (.int .i64 x7.2))])]) (sub_cons rfl (sub_cons rfl (sub_cons rfl sub_nil))) ?_
            refine w_cut 1 rfl rfl rfl rfl ?_
            exact wkE (by kernel_rfl) (by kernel_rfl)
        · cases h
        · have h := elimR h
          refine then_ ?_
          refine region_ ?_
          refine R tbok 1 [167, 1, 3, 8] [(167, [.c (.pv (.str j8))]), (1, [.c (.box 0 0)]), (3, [.c (.pv (.str j8))]), (8, [.c (.pv (.int .i64 x7.2))])] (by kernel_rfl) ?_
          obtain ⟨v46, k55, h⟩ := bindE h
          refine L rfl rfl (cat_ rfl rfl rfl k55) rfl ?_
          refine R tbok 1 [3, 1, 8] [(3, [.c (.pv (.str v46))]), (1, [.c (.box 0 0)]), (8, [.c (.pv (.int .i64 x7.2))])] (by kernel_rfl) ?_
          refine ops_nil ?_
          refine bN ?_
          refine then_ ?_
          refine region_ ?_
          refine R tbok 3 [8, 3, 1] [(8, [.c (.pv (.int .i64 (IntKind.i64.wrap (x7.2 + 1))))]), (3, [.c (.pv (.str v46))]), (1, [.c (.box 0 0)])] (by kernel_rfl) ?_
          refine ops_nil ?_
          obtain rfl := retE h
          refine lN ?_
          refine w_sub (env' := [(1, [.c (.box 0 0)]), (3, [.c (.pv (.str v46))]), (8, [.c (.pv (.int .i64 (IntKind.i64.wrap (x7.2 + 1))))])]) (sub_cons rfl (sub_cons rfl (sub_cons rfl sub_nil))) ?_
          exact wkE (by kernel_rfl) (by kernel_rfl)
      · have h := iteF h k30
        refine exit_ ?_
        refine tX ?_
        obtain rfl := retE h
        refine lX ?_
        refine w_sub (env' := [(1, [.c (.box 0 0)]), (3, [.c (.pv (.str x7.1))])]) (sub_cons rfl (sub_cons rfl sub_nil)) ?_
        exact wkE (by kernel_rfl) (by kernel_rfl)
    · cases h
    · have h := elimR h
      refine then_ ?_
      refine seq_ ?_
      refine seq_ ?_
      refine region_ ?_
      refine R tbok 1 [11, 1, 3] [(11, [.c (.pv (.int .i64 0))]), (1, [.c (.box 0 0)]), (3, [.c (.pv (.str j7))])] (by kernel_rfl) ?_
      refine ops_nil ?_
      refine then_ ?_
      refine lp_ (Qr := RW Tryd.prog GG Tryd.f21 0 r_l17_text o_l17_text) (l17_text_l10 a0) (fun (x10 : (ByteArray × Int)) => (⟨211, 0, [(1, [.c (.box 0 0)]), (3, [.c (.pv (.str x10.1))]), (11, [.c (.pv (.int .i64 x10.2))])], [some (.box true 55 [.pv (.sl (List.map e_sl51 a0.At)), .pv (.sl (List.map e_queue_Elem a0.Elems)), .pv (.sl (List.map e_fix_Alarm a0.Alarms)), .pv (.int .i64 a0.Steps)])]⟩ : Sx)) (fun (j10 : ByteArray) => (⟨211, 0, [(1, [.c (.box 0 0)]), (3, [.c (.pv (.str j10))])], [some (.box true 55 [.pv (.sl (List.map e_sl51 a0.At)), .pv (.sl (List.map e_queue_Elem a0.Elems)), .pv (.sl (List.map e_fix_Alarm a0.Alarms)), .pv (.int .i64 a0.Steps)])]⟩ : Sx)) (j7, 0) RW.only h wT ?_ (fun x10 o h => ?_) (fun r h s' hs => ?_) (fun j10 h => ?_)
      · refine w_sub (env' := [(1, [.c (.box 0 0)]), (3, [.c (.pv (.str j7))]), (11, [.c (.pv (.int .i64 0))])]) (sub_cons rfl (sub_cons rfl (sub_cons rfl sub_nil))) ?_
        exact wkE (by kernel_rfl) (by kernel_rfl)
      · unfold l17_text_l10 at h
        refine seq_ ?_
        refine seq_ ?_
        refine region_ ?_
        refine R tbok 3 [171, 169, 1, 3, 11] [(171, [.c (.pv (.sl (List.map e_fix_Alarm a0.Alarms)))]), (169, [.c (.pv (.int .i64 x10.2))]), (1, [.c (.box 0 0)]), (3, [.c (.pv (.str x10.1))]), (11, [.c (.pv (.int .i64 x10.2))])] (by kernel_rfl) ?_
        refine L rfl rfl (len_sl (e := e_fix_Alarm) rfl u35 rfl) rfl ?_
        refine R tbok 1 [173, 1, 3, 11] [(173, [.c (.pv (.bool (decide (x10.2 < (a0.Alarms.length : Int)))))]), (1, [.c (.box 0 0)]), (3, [.c (.pv (.str x10.1))]), (11, [.c (.pv (.int .i64 x10.2))])] (by kernel_rfl) ?_
        refine ops_nil ?_
        refine then_ ?_
        refine cond_ (b := (decide (x10.2 < (a0.Alarms.length : Int)))) rfl (fun k56 => ?_) (fun k56 => ?_)
        · have h := iteT h k56
          refine skip_ ?_
          refine then_ ?_
          refine seq_ ?_
          refine block_ ?_
          refine drawn_ mixed ?_
          refine dl (t := 176) 0 [.c (.pv (.str x10.1))] rfl ?_
          refine dl (t := 177) 1 [.c (.box 0 2)] rfl ?_
          refine dl (t := 178) 2 [.c (.pv (.sl (List.map e_fix_Alarm a0.Alarms)))] rfl ?_
          refine dl (t := 179) 3 [.c (.pv (.int .i64 x10.2))] rfl ?_
          obtain ⟨v47, k57, h⟩ := bindE h
          refine dl (t := 180) 4 [.c (.ep [.int .i64 v47.Proc, .int .i64 v47.Edge, .int .i64 v47.Kind])] rfl ?_
          refine dl (t := 181) 5 [.c (.ep [.int .i64 v47.Proc, .int .i64 v47.Edge, .int .i64 v47.Kind])] rfl ?_
          refine dl (t := 182) 6 [.c (.pv (.int .i64 v47.Proc))] rfl ?_
          refine dl (t := 183) 7 [.c (.box 0 2)] rfl ?_
          refine dl (t := 184) 8 [.c (.pv (.sl (List.map e_fix_Alarm a0.Alarms)))] rfl ?_
          refine dl (t := 185) 9 [.c (.pv (.int .i64 x10.2))] rfl ?_
          obtain ⟨v48, k58, h⟩ := bindE h
          refine dl (t := 186) 10 [.c (.ep [.int .i64 v48.Proc, .int .i64 v48.Edge, .int .i64 v48.Kind])] rfl ?_
          refine dl (t := 187) 11 [.c (.ep [.int .i64 v48.Edge, .int .i64 v48.Kind])] rfl ?_
          refine dl (t := 188) 12 [.c (.pv (.int .i64 v48.Edge))] rfl ?_
          refine dl (t := 189) 13 [.c (.box 0 2)] rfl ?_
          refine dl (t := 190) 14 [.c (.pv (.sl (List.map e_fix_Alarm a0.Alarms)))] rfl ?_
          refine dl (t := 191) 15 [.c (.pv (.int .i64 x10.2))] rfl ?_
          obtain ⟨v49, k59, h⟩ := bindE h
          refine dl (t := 192) 16 [.c (.ep [.int .i64 v49.Proc, .int .i64 v49.Edge, .int .i64 v49.Kind])] rfl ?_
          refine dl (t := 193) 17 [.c (.ep [.int .i64 v49.Kind])] rfl ?_
          refine dl (t := 194) 18 [.c (.pv (.int .i64 v49.Kind))] rfl ?_
          obtain ⟨v51, k61, h⟩ := bindE h
          refine dl (t := 195) 19 [.c (.pv (.str v51))] rfl ?_
          obtain ⟨v52, k62, h⟩ := bindE h
          refine dl (t := 196) 20 [.c (.pv (.str v52))] rfl ?_
          obtain ⟨v53, k63, h⟩ := bindE h
          refine dl (t := 197) 21 [.c (.pv (.str v53))] rfl ?_
          refine dl (t := 3) 22 [.c (.pv (.str v53))] rfl ?_
          refine d_endS (env2 := [(3, [.c (.pv (.str v53))]), (1, [.c (.box 0 0)]), (11, [.c (.pv (.int .i64 x10.2))])]) (wm [0, 0, 2, 0, 14, 30, 62, 0, 128, 0, 896, 1920, 3968, 0, 8192, 0, 57344, 122880, 253952, 524286, 1048575, 2097151, 4194303]) (by kernel_rfl) (by kernel_rfl) (by kernel_rfl) (oE tbok [] 1 (by kernel_rfl) (oL [] rfl (by kernel_rfl) (fl_lt (cat_ rfl rfl rfl k63)) (oL [] rfl (by kernel_rfl) (fl_lt (cat_ rfl rfl rfl k62)) (oL [] rfl (by kernel_rfl) (fl_call rfl Tryd.call18 rfl (by kernel_rfl) (by kernel_rfl) (r17_Alarm_meets k61)) (oE tbok [] 2 (by kernel_rfl) (oL [] rfl (by kernel_rfl) (fl_lt (ia_sl (e := e_fix_Alarm) (y := v49) rfl u35 ty25 rfl rfl k59 rfl)) (oE tbok [] 5 (by kernel_rfl) (oL [] rfl (by kernel_rfl) (fl_lt (ia_sl (e := e_fix_Alarm) (y := v48) rfl u35 ty25 rfl rfl k58 rfl)) (oE tbok [] 5 (by kernel_rfl) (oL [] rfl (by kernel_rfl) (fl_lt (ia_sl (e := e_fix_Alarm) (y := v47) rfl u35 ty25 rfl rfl k57 rfl)) (oE tbok [] 4 (by kernel_rfl) trivial))))))))))) (sub_cons rfl (sub_cons rfl (sub_cons rfl sub_nil))) (wB wT) ?_
          refine bN ?_
          refine then_ ?_
          refine region_ ?_
          refine R tbok 3 [11, 3, 1] [(11, [.c (.pv (.int .i64 (IntKind.i64.wrap (x10.2 + 1))))]), (3, [.c (.pv (.str v53))]), (1, [.c (.box 0 0)])] (by kernel_rfl) ?_
          refine ops_nil ?_
          obtain rfl := retE h
          refine lN ?_
          refine w_sub (env' := [(1, [.c (.box 0 0)]), (3, [.c (.pv (.str v53))]), (11, [.c (.pv (.int .i64 (IntKind.i64.wrap (x10.2 + 1))))])]) (sub_cons rfl (sub_cons rfl (sub_cons rfl sub_nil))) ?_
          exact wkE (by kernel_rfl) (by kernel_rfl)
        · have h := iteF h k56
          refine exit_ ?_
          refine tX ?_
          obtain rfl := retE h
          refine lX ?_
          refine w_sub (env' := [(1, [.c (.box 0 0)]), (3, [.c (.pv (.str x10.1))])]) (sub_cons rfl (sub_cons rfl sub_nil)) ?_
          exact wkE (by kernel_rfl) (by kernel_rfl)
      · cases h
      · have h := elimR h
        refine then_ ?_
        refine seq_ ?_
        refine seq_ ?_
        refine region_ ?_
        refine R tbok 2 [199, 1, 3] [(199, [.c (.pv (.sl (List.map e_fix_Alarm a0.Alarms)))]), (1, [.c (.box 0 0)]), (3, [.c (.pv (.str j10))])] (by kernel_rfl) ?_
        refine L rfl rfl (len_sl (e := e_fix_Alarm) rfl u35 rfl) rfl ?_
        refine R tbok 1 [201, 1, 3] [(201, [.c (.pv (.bool ((a0.Alarms.length : Int) == 0)))]), (1, [.c (.box 0 0)]), (3, [.c (.pv (.str j10))])] (by kernel_rfl) ?_
        refine ops_nil ?_
        refine then_ ?_
        refine cond_ (b := ((a0.Alarms.length : Int) == 0)) rfl (fun k64 => ?_) (fun k64 => ?_)
        · have h := iteT h k64
          refine seq_ ?_
          refine region_ ?_
          refine R tbok 1 [202, 1, 3] [(202, [.c (.pv (.str j10))]), (1, [.c (.box 0 0)]), (3, [.c (.pv (.str j10))])] (by kernel_rfl) ?_
          obtain ⟨v54, k65, h⟩ := bindE h
          refine L rfl rfl (cat_ rfl rfl rfl k65) rfl ?_
          refine R tbok 1 [2, 1, 3] [(2, [.c (.pv (.str v54))]), (1, [.c (.box 0 0)]), (3, [.c (.pv (.str j10))])] (by kernel_rfl) ?_
          refine ops_nil ?_
          refine then_ ?_
          refine ret_ ?_
          obtain rfl := retE h
          refine tR (rwr (rw_ (.tmp rfl .nil) ?_))
          refine w_none 0 .z ?_
          refine w_cut 0 rfl rfl rfl rfl ?_
          exact wkE (by kernel_rfl) (by kernel_rfl)
        · have h := iteF h k64
          refine skip_ ?_
          refine then_ ?_
          refine seq_ ?_
          refine region_ ?_
          refine R tbok 3 [206, 204] [(206, [.c (.pv (.sl (List.map e_fix_Alarm a0.Alarms)))]), (204, [.c (.pv (.str j10))])] (by kernel_rfl) ?_
          refine L rfl rfl (len_sl (e := e_fix_Alarm) rfl u35 rfl) rfl ?_
          obtain ⟨v55, k66, h⟩ := bindE h
          refine C rfl rfl (fl_call rfl Tryd.call31 rfl (by kernel_rfl) (by kernel_rfl) (r17_Number_meets k66)) rfl ?_
          obtain ⟨v56, k67, h⟩ := bindE h
          refine L rfl rfl (cat_ rfl rfl rfl k67) rfl ?_
          obtain ⟨v57, k68, h⟩ := bindE h
          refine L rfl rfl (cat_ rfl rfl rfl k68) rfl ?_
          refine R tbok 1 [2] [(2, [.c (.pv (.str v57))])] (by kernel_rfl) ?_
          refine ops_nil ?_
          refine then_ ?_
          refine ret_ ?_
          obtain rfl := retE h
          refine rwr (rw_ (.tmp rfl .nil) ?_)
          refine w_none 0 .z ?_
          refine w_cut 0 rfl rfl rfl rfl ?_
          exact wkE (by kernel_rfl) (by kernel_rfl)
end Go.Proofs.YtjcbedgpmjgcdaaDoor.Abs
