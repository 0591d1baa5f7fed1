/- Gb: the walks. -/
import Derived.Test.YtbebnddalipfhaaGbW0
namespace Go.Proofs.Ytbebnddalipfhaa.Abs
open Go Go.RowKit
set_option linter.unusedVariables false
set_option maxRecDepth 100000
set_option maxHeartbeats 4000000
theorem itv_divided_meets {a0 : Int} {a1 : itv_Itv} {a2 : itv_Itv} {r : (itv_Itv × itv_Errs)} (h : itv_divided a0 a1 a2 = some r) : MeetsV Try.prog GG 103 [.c (.pv (.int .i64 a0)), .agg [.pv (.int .i64 a1.Lo), .pv (.int .i64 a1.Hi)], .agg [.pv (.int .i64 a2.Lo), .pv (.int .i64 a2.Hi)]] [.agg [.pv (.int .i64 r.1.Lo), .pv (.int .i64 r.1.Hi)], .agg [.pv (.bool r.2.Overflow), .pv (.bool r.2.DivZero)]] := by
  refine MeetsS.toV (meetsW_of (st0 := []) (N := 35) r_itv_divided o_itv_divided r Try.func103 rfl rfl rfl (by dsimp only [argEnv]) rfl ?_) rfl
  unfold itv_divided at h
  refine seq_ ?_
  refine region_ ?_
  refine B rfl rfl (bir_box rfl rfl rfl) rfl rfl .z ?_
  refine B rfl rfl (bir_box rfl rfl rfl) rfl rfl (.s .z) ?_
  refine B rfl rfl (bir_alloc rfl z53 rfl rfl) rfl rfl (.s (.s .z)) ?_
  refine B rfl rfl (bir_alloc rfl z120 rfl rfl) rfl rfl (.s (.s (.s .z))) ?_
  refine ops_nil ?_
  refine then_ ?_
  refine seq_ ?_
  refine region_ ?_
  refine R tbok 1 [11, 7, 6, 5, 4, 0] [(11, [.agg [.pv (.int .i64 a2.Lo), .pv (.int .i64 a2.Hi)]]), (7, [.c (.box 3 0)]), (6, [.c (.box 2 0)]), (5, [.c (.box 1 0)]), (4, [.c (.box 0 0)]), (0, [.c (.pv (.int .i64 a0))])] (by kernel_rfl) ?_
  obtain ⟨v1, k1, h⟩ := bindE h
  refine C rfl rfl (fl_call rfl Try.call105 rfl (by kernel_rfl) (by kernel_rfl) (itv_Has_meets k1)) rfl ?_
  refine R tbok 1 [8, 7, 6, 5, 4, 0] [(8, [.c (.pv (.bool v1))]), (7, [.c (.box 3 0)]), (6, [.c (.box 2 0)]), (5, [.c (.box 1 0)]), (4, [.c (.box 0 0)]), (0, [.c (.pv (.int .i64 a0))])] (by kernel_rfl) ?_
  refine ops_nil ?_
  refine then_ ?_
  refine seq_ ?_
  refine seq_ ?_
  refine drawn_ mixed ?_
  refine dl (t := 13) 0 [.agg [.pv (.int .i64 a2.Lo), .pv (.int .i64 a2.Hi)]] rfl ?_
  obtain ⟨v3, k3, h⟩ := bindE h
  refine dl (t := 14) 1 [.agg [.pv (.int .i64 v3.Lo), .pv (.int .i64 v3.Hi)]] rfl ?_
  refine dl (t := 15) 2 [.c (.pv (.bool ((a2.Lo : Int) == v3.Lo && ((a2.Hi : Int) == v3.Hi && true))))] rfl ?_
  refine d_endS (env2 := [(15, [.c (.pv (.bool ((a2.Lo : Int) == v3.Lo && ((a2.Hi : Int) == v3.Hi && true))))]), (8, [.c (.pv (.bool v1))]), (7, [.c (.box 3 0)]), (6, [.c (.box 2 0)]), (5, [.c (.box 1 0)]), (4, [.c (.box 0 0)]), (0, [.c (.pv (.int .i64 a0))])]) (wm [0, 0, 3]) (by kernel_rfl) (by kernel_rfl) (by kernel_rfl) (oL [] rfl (by kernel_rfl) (fl_lt (lt_eqStruct (r := ((a2.Lo : Int) == v3.Lo && ((a2.Hi : Int) == v3.Hi && true))) rfl u53 sp53 eg53 rfl rfl (by kernel_rfl) (.inl ⟨rfl, rfl⟩))) (oL [] rfl (by kernel_rfl) (fl_call rfl Try.call15 rfl (by kernel_rfl) (by kernel_rfl) (itv_Const_meets k3)) (oE tbok [] 1 (by kernel_rfl) trivial))) (sub_cons rfl (sub_cons rfl (sub_cons rfl (sub_cons rfl (sub_cons rfl (sub_cons rfl (sub_cons rfl sub_nil))))))) wT ?_
  refine then_ ?_
  refine cond_ (b := ((a2.Lo : Int) == v3.Lo && ((a2.Hi : Int) == v3.Hi && true))) rfl (fun k4 => ?_) (fun k4 => ?_)
  · have h := iteT h k4
    refine seq_ ?_
    refine region_ ?_
    obtain ⟨v4, k5, h⟩ := bindE h
    refine C rfl rfl (fl_call rfl Try.call22 rfl (by kernel_rfl) (by kernel_rfl) (itv_None_meets k5)) rfl ?_
    refine L rfl rfl (lt_build (cs := [.pv (.bool false), .pv (.bool true)]) rfl st120 rfl (by kernel_rfl)) rfl ?_
    refine S rfl rfl rfl ty53 (by decide) rfl rfl rfl rfl rfl (.all rfl) (.s (.s .z)) ?_
    refine S rfl rfl rfl ty120 (by decide) rfl rfl rfl rfl rfl (.all rfl) (.s (.s (.s .z))) ?_
    refine ops_nil ?_
    refine then_ ?_
    refine ret_ ?_
    obtain rfl := retE h
    refine tR (rwr (rw_ (.cellA (ys := [.pv (.int .i64 v4.Lo), .pv (.int .i64 v4.Hi)]) ty53 rfl rfl (by kernel_rfl) (by kernel_rfl) (.cellA (ys := [.pv (.bool false), .pv (.bool true)]) ty120 rfl rfl (by kernel_rfl) (by kernel_rfl) .nil)) ?_))
    refine w_none 0 .z ?_
    refine w_none 1 (.s .z) ?_
    refine w_none 2 (.s (.s .z)) ?_
    refine w_none 3 (.s (.s (.s .z))) ?_
    refine w_cut 0 rfl rfl rfl rfl ?_
    exact wkE (by kernel_rfl) (by kernel_rfl)
  · have h := iteF h k4
    refine skip_ ?_
    refine then_ ?_
    refine seq_ ?_
    refine seq_ ?_
    refine region_ ?_
    refine R tbok 2 [19, 8, 7, 6, 5, 4] [(19, [.c (.pv (.bool (a0 == 8)))]), (8, [.c (.pv (.bool v1))]), (7, [.c (.box 3 0)]), (6, [.c (.box 2 0)]), (5, [.c (.box 1 0)]), (4, [.c (.box 0 0)])] (by kernel_rfl) ?_
    refine ops_nil ?_
    refine then_ ?_
    refine cond_ (b := (a0 == 8)) rfl (fun k6 => ?_) (fun k6 => ?_)
    · have h := iteT h k6
      refine seq_ ?_
      refine region_ ?_
      refine R tbok 2 [21, 20, 8, 7, 6, 5, 4] [(21, [.agg [.pv (.int .i64 a2.Lo), .pv (.int .i64 a2.Hi)]]), (20, [.agg [.pv (.int .i64 a1.Lo), .pv (.int .i64 a1.Hi)]]), (8, [.c (.pv (.bool v1))]), (7, [.c (.box 3 0)]), (6, [.c (.box 2 0)]), (5, [.c (.box 1 0)]), (4, [.c (.box 0 0)])] (by kernel_rfl) ?_
      obtain ⟨v5, k7, h⟩ := bindE h
      refine C rfl rfl (fl_call rfl Try.call106 rfl (by kernel_rfl) (by kernel_rfl) (itv_rest_meets k7)) rfl ?_
      refine R tbok 1 [23, 22, 8, 7, 6, 5, 4] [(23, [.c (.pv (.bool v1))]), (22, [.agg [.pv (.int .i64 v5.Lo), .pv (.int .i64 v5.Hi)]]), (8, [.c (.pv (.bool v1))]), (7, [.c (.box 3 0)]), (6, [.c (.box 2 0)]), (5, [.c (.box 1 0)]), (4, [.c (.box 0 0)])] (by kernel_rfl) ?_
      refine L rfl rfl (lt_build (cs := [.pv (.bool false), .pv (.bool v1)]) rfl st120 rfl (by kernel_rfl)) rfl ?_
      refine S rfl rfl rfl ty53 (by decide) rfl rfl rfl rfl rfl (.all rfl) (.s (.s .z)) ?_
      refine S rfl rfl rfl ty120 (by decide) rfl rfl rfl rfl rfl (.all rfl) (.s (.s (.s .z))) ?_
      refine ops_nil ?_
      refine then_ ?_
      refine ret_ ?_
      obtain rfl := retE h
      refine tR (rwr (rw_ (.cellA (ys := [.pv (.int .i64 v5.Lo), .pv (.int .i64 v5.Hi)]) ty53 rfl rfl (by kernel_rfl) (by kernel_rfl) (.cellA (ys := [.pv (.bool false), .pv (.bool v1)]) ty120 rfl rfl (by kernel_rfl) (by kernel_rfl) .nil)) ?_))
      refine w_none 0 .z ?_
      refine w_none 1 (.s .z) ?_
      refine w_none 2 (.s (.s .z)) ?_
      refine w_none 3 (.s (.s (.s .z))) ?_
      refine w_cut 0 rfl rfl rfl rfl ?_
      exact wkE (by kernel_rfl) (by kernel_rfl)
    · have h := iteF h k6
      refine skip_ ?_
      refine then_ ?_
      refine seq_ ?_
      refine region_ ?_
      refine R tbok 2 [27, 26, 8, 7, 6] [(27, [.agg [.pv (.int .i64 a2.Lo), .pv (.int .i64 a2.Hi)]]), (26, [.agg [.pv (.int .i64 a1.Lo), .pv (.int .i64 a1.Hi)]]), (8, [.c (.pv (.bool v1))]), (7, [.c (.box 3 0)]), (6, [.c (.box 2 0)])] (by kernel_rfl) ?_
      obtain ⟨v6, k8, h⟩ := bindE h
      refine C rfl rfl (fl_call rfl Try.call107 rfl (by kernel_rfl) (by kernel_rfl) (itv_quotient_meets k8)) rfl ?_
      refine R tbok 3 [30, 29, 8, 7, 6] [(30, [.agg [.pv (.bool v6.2.Overflow), .pv (.bool v6.2.DivZero)]]), (29, [.agg [.pv (.int .i64 v6.1.Lo), .pv (.int .i64 v6.1.Hi)]]), (8, [.c (.pv (.bool v1))]), (7, [.c (.box 3 0)]), (6, [.c (.box 2 0)])] (by kernel_rfl) ?_
      refine B rfl rfl (bir_alloc rfl z53 rfl rfl) rfl rfl (.s (.s (.s (.s .z)))) ?_
      refine B rfl rfl (bir_alloc rfl z120 rfl rfl) rfl rfl (.s (.s (.s (.s (.s .z))))) ?_
      refine S rfl rfl rfl ty53 (by decide) rfl rfl rfl rfl rfl (.all rfl) (.s (.s (.s (.s .z)))) ?_
      refine S rfl rfl rfl ty120 (by decide) rfl rfl rfl rfl rfl (.all rfl) (.s (.s (.s (.s (.s .z))))) ?_
      refine ops_nil ?_
      refine then_ ?_
      refine seq_ ?_
      refine region_ ?_
      refine R tbok 2 [32, 31, 10, 9, 7, 6] [(32, [.c (.box 5 1)]), (31, [.c (.pv (.bool v1))]), (10, [.c (.box 5 0)]), (9, [.c (.box 4 0)]), (7, [.c (.box 3 0)]), (6, [.c (.box 2 0)])] (by kernel_rfl) ?_
      refine S rfl rfl rfl ty4 (by decide) rfl rfl rfl rfl rfl (.cons (.s .z) .nil) (.s (.s (.s (.s (.s .z))))) ?_
      refine ops_nil ?_
      refine then_ ?_
      refine seq_ ?_
      refine drawn_ mixed ?_
      refine dl (t := 33) 0 [.agg [.pv (.int .i64 v6.1.Lo), .pv (.int .i64 v6.1.Hi)]] rfl ?_
      refine dl (t := 34) 1 [.agg [.pv (.bool v6.2.Overflow), .pv (.bool v1)]] rfl ?_
      refine d_store (wm [0, 0, 1, 7]) 2 rfl (by kernel_rfl) (by kernel_rfl) (by kernel_rfl) (by kernel_rfl) (by kernel_rfl) (gi0 rfl) (oE tbok [] 2 (by kernel_rfl) trivial) rfl rfl ty53 rfl rfl rfl rfl rfl rfl (putE 2 (.all rfl) rfl (by decide)) (SetAt.eq (.s (.s .z))) ?_
      refine d_store (wm [0, 0, 1, 7]) 3 rfl (by kernel_rfl) (by kernel_rfl) (by kernel_rfl) (by kernel_rfl) (by kernel_rfl) (gi0 rfl) (oN 1 (by kernel_rfl) (oE tbok [] 1 (by kernel_rfl) (oN 1 (by kernel_rfl) trivial))) rfl rfl ty120 rfl rfl rfl rfl rfl rfl (putE 2 (.all rfl) rfl (by decide)) (SetAt.eq (.s (.s (.s .z)))) ?_
      refine d_endS (env2 := [(7, [.c (.box 3 0)]), (6, [.c (.box 2 0)])]) (wm [0, 0, 1, 7]) (by kernel_rfl) (by kernel_rfl) (by kernel_rfl) (oN 4 (by kernel_rfl) trivial) (sub_cons rfl (sub_cons rfl sub_nil)) wT ?_
      refine then_ ?_
      refine ret_ ?_
      obtain rfl := retE h
      refine rwr (rw_ (.cellA (ys := [.pv (.int .i64 v6.1.Lo), .pv (.int .i64 v6.1.Hi)]) ty53 rfl rfl (by kernel_rfl) (by kernel_rfl) (.cellA (ys := [.pv (.bool v6.2.Overflow), .pv (.bool v1)]) ty120 rfl rfl (by kernel_rfl) (by kernel_rfl) .nil)) ?_)
      refine w_none 0 .z ?_
      refine w_none 1 (.s .z) ?_
      refine w_none 2 (.s (.s .z)) ?_
      refine w_none 3 (.s (.s (.s .z))) ?_
      refine w_none 4 (.s (.s (.s (.s .z)))) ?_
      refine w_none 5 (.s (.s (.s (.s (.s .z))))) ?_
      refine w_cut 0 rfl rfl rfl rfl ?_
      exact wkE (by kernel_rfl) (by kernel_rfl)

theorem itv_Do_meets {a0 : Int} {a1 : itv_Itv} {a2 : itv_Itv} {r : (itv_Itv × itv_Errs)} (h : itv_Do a0 a1 a2 = some r) : MeetsV Try.prog GG 95 [.c (.pv (.int .i64 a0)), .agg [.pv (.int .i64 a1.Lo), .pv (.int .i64 a1.Hi)], .agg [.pv (.int .i64 a2.Lo), .pv (.int .i64 a2.Hi)]] [.agg [.pv (.int .i64 r.1.Lo), .pv (.int .i64 r.1.Hi)], .agg [.pv (.bool r.2.Overflow), .pv (.bool r.2.DivZero)]] := by
  refine MeetsS.toV (meetsW_of (st0 := []) (N := 82) r_itv_Do o_itv_Do r Try.func95 rfl rfl rfl (by dsimp only [argEnv]) rfl ?_) rfl
  unfold itv_Do at h
  refine seq_ ?_
  refine region_ ?_
  refine B rfl rfl (bir_box rfl rfl rfl) rfl rfl .z ?_
  refine B rfl rfl (bir_box rfl rfl rfl) rfl rfl (.s .z) ?_
  refine B rfl rfl (bir_alloc rfl z53 rfl rfl) rfl rfl (.s (.s .z)) ?_
  refine B rfl rfl (bir_alloc rfl z120 rfl rfl) rfl rfl (.s (.s (.s .z))) ?_
  refine ops_nil ?_
  refine then_ ?_
  refine seq_ ?_
  refine seq_ ?_
  refine jn_ (fun (j1 : Bool) => (⟨82, 0, [(0, [.c (.pv (.int .i64 a0))]), (4, [.c (.box 0 0)]), (5, [.c (.box 1 0)]), (6, [.c (.box 2 0)]), (7, [.c (.box 3 0)]), (13, [.c (.pv (.bool j1))])], [some (.box true 53 [.pv (.int .i64 a1.Lo), .pv (.int .i64 a1.Hi)]), some (.box true 53 [.pv (.int .i64 a2.Lo), .pv (.int .i64 a2.Hi)]), some (.box true 53 [.pv (.int .i64 0), .pv (.int .i64 0)]), some (.box true 120 [.pv (.bool false), .pv (.bool false)])]⟩ : Sx)) h wT (fun o h => ?_) (fun j1 h => ?_)
  · refine region_ ?_
    refine R tbok 1 [8, 7, 6, 5, 4, 0] [(8, [.agg [.pv (.int .i64 a1.Lo), .pv (.int .i64 a1.Hi)]]), (7, [.c (.box 3 0)]), (6, [.c (.box 2 0)]), (5, [.c (.box 1 0)]), (4, [.c (.box 0 0)]), (0, [.c (.pv (.int .i64 a0))])] (by kernel_rfl) ?_
    obtain ⟨v1, k1, h⟩ := bindE h
    refine C rfl rfl (fl_call rfl Try.call31 rfl (by kernel_rfl) (by kernel_rfl) (itv_Empty_meets k1)) rfl ?_
    refine R tbok 1 [10, 7, 6, 5, 4, 0] [(10, [.c (.pv (.bool v1))]), (7, [.c (.box 3 0)]), (6, [.c (.box 2 0)]), (5, [.c (.box 1 0)]), (4, [.c (.box 0 0)]), (0, [.c (.pv (.int .i64 a0))])] (by kernel_rfl) ?_
    refine (tf v1).elim (fun k2 => ?_) (fun k2 => ?_)
    · have h := iteT h k2
      refine Ls0 rfl rfl rfl k2 rfl rfl ?_
      refine Ls0 rfl rfl rfl k2 rfl rfl ?_
      refine L rfl rfl (lt_pickT rfl rfl k2 rfl) rfl ?_
      refine ops_nil ?_
      obtain rfl := retE h
      refine mN ?_
      refine w_sub (env' := [(0, [.c (.pv (.int .i64 a0))]), (4, [.c (.box 0 0)]), (5, [.c (.box 1 0)]), (6, [.c (.box 2 0)]), (7, [.c (.box 3 0)]), (13, [.c (.pv (.bool true))])]) (sub_cons rfl (sub_cons rfl (sub_cons rfl (sub_cons rfl (sub_cons rfl (sub_cons rfl sub_nil)))))) ?_
      exact wkE (by kernel_rfl) (by kernel_rfl)
    · have h := iteF h k2
      refine Lg rfl rfl rfl k2 rfl (lt_load_boxA (ys := [.pv (.int .i64 a2.Lo), .pv (.int .i64 a2.Hi)]) rfl ty53 rfl rfl (by kernel_rfl) (by kernel_rfl)) rfl ?_
      obtain ⟨v2, k3, h⟩ := bindE h
      refine Hg rfl rfl rfl k2 rfl rfl (op_fl rfl rfl (fl_call rfl Try.call31 rfl (by kernel_rfl) (by kernel_rfl) (itv_Empty_meets k3)) ?_)
      refine L rfl rfl (lt_pickF rfl rfl k2 rfl) rfl ?_
      refine ops_nil ?_
      obtain rfl := retE h
      refine mN ?_
      refine w_sub (env' := [(0, [.c (.pv (.int .i64 a0))]), (4, [.c (.box 0 0)]), (5, [.c (.box 1 0)]), (6, [.c (.box 2 0)]), (7, [.c (.box 3 0)]), (13, [.c (.pv (.bool v2))])]) (sub_cons rfl (sub_cons rfl (sub_cons rfl (sub_cons rfl (sub_cons rfl (sub_cons rfl sub_nil)))))) ?_
      exact wkE (by kernel_rfl) (by kernel_rfl)
  · refine then_ ?_
    refine cond_ (b := j1) rfl (fun k4 => ?_) (fun k4 => ?_)
    · have h := iteT h k4
      refine seq_ ?_
      refine region_ ?_
      obtain ⟨v3, k5, h⟩ := bindE h
      refine C rfl rfl (fl_call rfl Try.call22 rfl (by kernel_rfl) (by kernel_rfl) (itv_None_meets k5)) rfl ?_
      refine L rfl rfl (lt_build (cs := [.pv (.bool false), .pv (.bool false)]) rfl st120 rfl (by kernel_rfl)) rfl ?_
      refine S rfl rfl rfl ty53 (by decide) rfl rfl rfl rfl rfl (.all rfl) (.s (.s .z)) ?_
      refine S rfl rfl rfl ty120 (by decide) rfl rfl rfl rfl rfl (.all rfl) (.s (.s (.s .z))) ?_
      refine ops_nil ?_
      refine then_ ?_
      refine ret_ ?_
      obtain rfl := retE h
      refine tR (rwr (rw_ (.cellA (ys := [.pv (.int .i64 v3.Lo), .pv (.int .i64 v3.Hi)]) ty53 rfl rfl (by kernel_rfl) (by kernel_rfl) (.cellA (ys := [.pv (.bool false), .pv (.bool false)]) ty120 rfl rfl (by kernel_rfl) (by kernel_rfl) .nil)) ?_))
      refine w_none 0 .z ?_
      refine w_none 1 (.s .z) ?_
      refine w_none 2 (.s (.s .z)) ?_
      refine w_none 3 (.s (.s (.s .z))) ?_
      refine w_cut 0 rfl rfl rfl rfl ?_
      exact wkE (by kernel_rfl) (by kernel_rfl)
    · have h := iteF h k4
      refine skip_ ?_
      refine then_ ?_
      refine seq_ ?_
      refine drawn_ mixed ?_
      refine dl (t := 16) 0 [.agg [.pv (.int .i64 a1.Lo), .pv (.int .i64 a1.Hi)]] rfl ?_
      obtain ⟨v5, k7, h⟩ := bindE h
      refine dl (t := 17) 1 [.agg [.pv (.int .i64 v5.Lo), .pv (.int .i64 v5.Hi)]] rfl ?_
      obtain ⟨v7, k9, h⟩ := bindE h
      refine dl (t := 18) 2 [.agg [.pv (.int .i64 v7.Lo), .pv (.int .i64 v7.Hi)]] rfl ?_
      refine dl (t := 19) 3 [.agg [.pv (.int .i64 a2.Lo), .pv (.int .i64 a2.Hi)]] rfl ?_
      obtain ⟨v9, k11, h⟩ := bindE h
      refine dl (t := 20) 4 [.agg [.pv (.int .i64 v9.Lo), .pv (.int .i64 v9.Hi)]] rfl ?_
      obtain ⟨v11, k13, h⟩ := bindE h
      refine dl (t := 21) 5 [.agg [.pv (.int .i64 v11.Lo), .pv (.int .i64 v11.Hi)]] rfl ?_
      refine d_store (wm [0, 0, 3, 0, 7, 31, 63, 127]) 6 rfl (by kernel_rfl) (by kernel_rfl) (by kernel_rfl) (by kernel_rfl) (by kernel_rfl) (gi0 rfl) (oL [] rfl (by kernel_rfl) (fl_call rfl Try.call81 rfl (by kernel_rfl) (by kernel_rfl) (itv_Meet_meets k13)) (oL [] rfl (by kernel_rfl) (fl_call rfl Try.call44 rfl (by kernel_rfl) (by kernel_rfl) (itv_All_meets k11)) (oE tbok [] 1 (by kernel_rfl) (oL [] rfl (by kernel_rfl) (fl_call rfl Try.call81 rfl (by kernel_rfl) (by kernel_rfl) (itv_Meet_meets k9)) (oL [] rfl (by kernel_rfl) (fl_call rfl Try.call44 rfl (by kernel_rfl) (by kernel_rfl) (itv_All_meets k7)) (oE tbok [] 1 (by kernel_rfl) trivial)))))) rfl rfl ty53 rfl rfl rfl rfl rfl rfl (putE 2 (.all rfl) rfl (by decide)) (SetAt.eq .z) ?_
      refine d_store (wm [0, 0, 3, 0, 7, 31, 63, 127]) 7 rfl (by kernel_rfl) (by kernel_rfl) (by kernel_rfl) (by kernel_rfl) (by kernel_rfl) (gi0 rfl) (oN 7 (by kernel_rfl) trivial) rfl rfl ty53 rfl rfl rfl rfl rfl rfl (putE 2 (.all rfl) rfl (by decide)) (SetAt.eq (.s .z)) ?_
      refine d_endS (env2 := [(0, [.c (.pv (.int .i64 a0))]), (4, [.c (.box 0 0)]), (5, [.c (.box 1 0)]), (6, [.c (.box 2 0)]), (7, [.c (.box 3 0)])]) (wm [0, 0, 3, 0, 7, 31, 63, 127]) (by kernel_rfl) (by kernel_rfl) (by kernel_rfl) (oN 8 (by kernel_rfl) trivial) (sub_cons rfl (sub_cons rfl (sub_cons rfl (sub_cons rfl (sub_cons rfl sub_nil))))) wT ?_
      refine then_ ?_
      refine seq_ ?_
      refine seq_ ?_
      refine jn_ (fun (j2 : Bool) => (⟨82, 0, [(0, [.c (.pv (.int .i64 a0))]), (4, [.c (.box 0 0)]), (5, [.c (.box 1 0)]), (6, [.c (.box 2 0)]), (7, [.c (.box 3 0)]), (27, [.c (.pv (.bool j2))])], [some (.box true 53 [.pv (.int .i64 v7.Lo), .pv (.int .i64 v7.Hi)]), some (.box true 53 [.pv (.int .i64 v11.Lo), .pv (.int .i64 v11.Hi)]), some (.box true 53 [.pv (.int .i64 0), .pv (.int .i64 0)]), some (.box true 120 [.pv (.bool false), .pv (.bool false)])]⟩ : Sx)) h wT (fun o h => ?_) (fun j2 h => ?_)
      · refine region_ ?_
        refine R tbok 1 [22, 0, 4, 5, 6, 7] [(22, [.agg [.pv (.int .i64 v7.Lo), .pv (.int .i64 v7.Hi)]]), (0, [.c (.pv (.int .i64 a0))]), (4, [.c (.box 0 0)]), (5, [.c (.box 1 0)]), (6, [.c (.box 2 0)]), (7, [.c (.box 3 0)])] (by kernel_rfl) ?_
        obtain ⟨v12, k14, h⟩ := bindE h
        refine C rfl rfl (fl_call rfl Try.call31 rfl (by kernel_rfl) (by kernel_rfl) (itv_Empty_meets k14)) rfl ?_
        refine R tbok 1 [24, 0, 4, 5, 6, 7] [(24, [.c (.pv (.bool v12))]), (0, [.c (.pv (.int .i64 a0))]), (4, [.c (.box 0 0)]), (5, [.c (.box 1 0)]), (6, [.c (.box 2 0)]), (7, [.c (.box 3 0)])] (by kernel_rfl) ?_
        refine (tf v12).elim (fun k15 => ?_) (fun k15 => ?_)
        · have h := iteT h k15
          refine Ls0 rfl rfl rfl k15 rfl rfl ?_
          refine Ls0 rfl rfl rfl k15 rfl rfl ?_
          refine L rfl rfl (lt_pickT rfl rfl k15 rfl) rfl ?_
          refine ops_nil ?_
          obtain rfl := retE h
          refine mN ?_
          refine w_sub (env' := [(0, [.c (.pv (.int .i64 a0))]), (4, [.c (.box 0 0)]), (5, [.c (.box 1 0)]), (6, [.c (.box 2 0)]), (7, [.c (.box 3 0)]), (27, [.c (.pv (.bool true))])]) (sub_cons rfl (sub_cons rfl (sub_cons rfl (sub_cons rfl (sub_cons rfl (sub_cons rfl sub_nil)))))) ?_
          exact wkE (by kernel_rfl) (by kernel_rfl)
        · have h := iteF h k15
          refine Lg rfl rfl rfl k15 rfl (lt_load_boxA (ys := [.pv (.int .i64 v11.Lo), .pv (.int .i64 v11.Hi)]) rfl ty53 rfl rfl (by kernel_rfl) (by kernel_rfl)) rfl ?_
          obtain ⟨v13, k16, h⟩ := bindE h
          refine Hg rfl rfl rfl k15 rfl rfl (op_fl rfl rfl (fl_call rfl Try.call31 rfl (by kernel_rfl) (by kernel_rfl) (itv_Empty_meets k16)) ?_)
          refine L rfl rfl (lt_pickF rfl rfl k15 rfl) rfl ?_
          refine ops_nil ?_
          obtain rfl := retE h
          refine mN ?_
          refine w_sub (env' := [(0, [.c (.pv (.int .i64 a0))]), (4, [.c (.box 0 0)]), (5, [.c (.box 1 0)]), (6, [.c (.box 2 0)]), (7, [.c (.box 3 0)]), (27, [.c (.pv (.bool v13))])]) (sub_cons rfl (sub_cons rfl (sub_cons rfl (sub_cons rfl (sub_cons rfl (sub_cons rfl sub_nil)))))) ?_
          exact wkE (by kernel_rfl) (by kernel_rfl)
      · refine then_ ?_
        refine cond_ (b := j2) rfl (fun k17 => ?_) (fun k17 => ?_)
        · have h := iteT h k17
          refine seq_ ?_
          refine region_ ?_
          obtain ⟨v14, k18, h⟩ := bindE h
          refine C rfl rfl (fl_call rfl Try.call22 rfl (by kernel_rfl) (by kernel_rfl) (itv_None_meets k18)) rfl ?_
          refine L rfl rfl (lt_build (cs := [.pv (.bool false), .pv (.bool false)]) rfl st120 rfl (by kernel_rfl)) rfl ?_
          refine S rfl rfl rfl ty53 (by decide) rfl rfl rfl rfl rfl (.all rfl) (.s (.s .z)) ?_
          refine S rfl rfl rfl ty120 (by decide) rfl rfl rfl rfl rfl (.all rfl) (.s (.s (.s .z))) ?_
          refine ops_nil ?_
          refine then_ ?_
          refine ret_ ?_
          obtain rfl := retE h
          refine tR (rwr (rw_ (.cellA (ys := [.pv (.int .i64 v14.Lo), .pv (.int .i64 v14.Hi)]) ty53 rfl rfl (by kernel_rfl) (by kernel_rfl) (.cellA (ys := [.pv (.bool false), .pv (.bool false)]) ty120 rfl rfl (by kernel_rfl) (by kernel_rfl) .nil)) ?_))
          refine w_none 0 .z ?_
          refine w_none 1 (.s .z) ?_
          refine w_none 2 (.s (.s .z)) ?_
          refine w_none 3 (.s (.s (.s .z))) ?_
          refine w_cut 0 rfl rfl rfl rfl ?_
          exact wkE (by kernel_rfl) (by kernel_rfl)
        · have h := iteF h k17
          refine skip_ ?_
          refine then_ ?_
          refine seq_ ?_
          refine seq_ ?_
          refine region_ ?_
          refine R tbok 1 [30, 0, 4, 5, 6, 7] [(30, [.c (.pv (.int .i64 a0))]), (0, [.c (.pv (.int .i64 a0))]), (4, [.c (.box 0 0)]), (5, [.c (.box 1 0)]), (6, [.c (.box 2 0)]), (7, [.c (.box 3 0)])] (by kernel_rfl) ?_
          refine ops_nil ?_
          refine then_ ?_
          refine block_ ?_
          refine seq_ ?_
          refine region_ ?_
          refine R tbok 2 [31, 30, 0, 4, 5, 6, 7] [(31, [.c (.pv (.bool (a0 == 4)))]), (30, [.c (.pv (.int .i64 a0))]), (0, [.c (.pv (.int .i64 a0))]), (4, [.c (.box 0 0)]), (5, [.c (.box 1 0)]), (6, [.c (.box 2 0)]), (7, [.c (.box 3 0)])] (by kernel_rfl) ?_
          refine ops_nil ?_
          refine then_ ?_
          refine cond_ (b := (a0 == 4)) rfl (fun k19 => ?_) (fun k19 => ?_)
          · have h := iteT h k19
            refine seq_ ?_
            refine region_ ?_
            refine R tbok 10 [42, 37, 6, 7] [(42, [.c (.pv (.int .i64 (IntKind.i64.wrap (v7.Hi + v11.Hi))))]), (37, [.c (.pv (.int .i64 (IntKind.i64.wrap (v7.Lo + v11.Lo))))]), (6, [.c (.box 2 0)]), (7, [.c (.box 3 0)])] (by kernel_rfl) ?_
            obtain ⟨v15, k20, h⟩ := bindE h
            refine C rfl rfl (fl_call rfl Try.call100 rfl (by kernel_rfl) (by kernel_rfl) (itv_cut_meets k20)) rfl ?_
            refine R tbok 2 [45, 44, 6, 7] [(45, [.agg [.pv (.bool v15.2.Overflow), .pv (.bool v15.2.DivZero)]]), (44, [.agg [.pv (.int .i64 v15.1.Lo), .pv (.int .i64 v15.1.Hi)]]), (6, [.c (.box 2 0)]), (7, [.c (.box 3 0)])] (by kernel_rfl) ?_
            refine S rfl rfl rfl ty53 (by decide) rfl rfl rfl rfl rfl (.all rfl) (.s (.s .z)) ?_
            refine S rfl rfl rfl ty120 (by decide) rfl rfl rfl rfl rfl (.all rfl) (.s (.s (.s .z))) ?_
            refine ops_nil ?_
            refine then_ ?_
            refine ret_ ?_
            obtain rfl := retE h
            refine bR (tR (rwr (rw_ (.cellA (ys := [.pv (.int .i64 v15.1.Lo), .pv (.int .i64 v15.1.Hi)]) ty53 rfl rfl (by kernel_rfl) (by kernel_rfl) (.cellA (ys := [.pv (.bool v15.2.Overflow), .pv (.bool v15.2.DivZero)]) ty120 rfl rfl (by kernel_rfl) (by kernel_rfl) .nil)) ?_)))
            refine w_none 0 .z ?_
            refine w_none 1 (.s .z) ?_
            refine w_none 2 (.s (.s .z)) ?_
            refine w_none 3 (.s (.s (.s .z))) ?_
            refine w_cut 0 rfl rfl rfl rfl ?_
            exact wkE (by kernel_rfl) (by kernel_rfl)
          · have h := iteF h k19
            refine seq_ ?_
            refine region_ ?_
            refine R tbok 2 [46, 30, 0, 4, 5, 6, 7] [(46, [.c (.pv (.bool (a0 == 5)))]), (30, [.c (.pv (.int .i64 a0))]), (0, [.c (.pv (.int .i64 a0))]), (4, [.c (.box 0 0)]), (5, [.c (.box 1 0)]), (6, [.c (.box 2 0)]), (7, [.c (.box 3 0)])] (by kernel_rfl) ?_
            refine ops_nil ?_
            refine then_ ?_
            refine cond_ (b := (a0 == 5)) rfl (fun k21 => ?_) (fun k21 => ?_)
            · have h := iteT h k21
              refine seq_ ?_
              refine region_ ?_
              refine R tbok 10 [57, 52, 6, 7] [(57, [.c (.pv (.int .i64 (IntKind.i64.wrap (v7.Hi - v11.Lo))))]), (52, [.c (.pv (.int .i64 (IntKind.i64.wrap (v7.Lo - v11.Hi))))]), (6, [.c (.box 2 0)]), (7, [.c (.box 3 0)])] (by kernel_rfl) ?_
              obtain ⟨v16, k22, h⟩ := bindE h
              refine C rfl rfl (fl_call rfl Try.call100 rfl (by kernel_rfl) (by kernel_rfl) (itv_cut_meets k22)) rfl ?_
              refine R tbok 2 [60, 59, 6, 7] [(60, [.agg [.pv (.bool v16.2.Overflow), .pv (.bool v16.2.DivZero)]]), (59, [.agg [.pv (.int .i64 v16.1.Lo), .pv (.int .i64 v16.1.Hi)]]), (6, [.c (.box 2 0)]), (7, [.c (.box 3 0)])] (by kernel_rfl) ?_
              refine S rfl rfl rfl ty53 (by decide) rfl rfl rfl rfl rfl (.all rfl) (.s (.s .z)) ?_
              refine S rfl rfl rfl ty120 (by decide) rfl rfl rfl rfl rfl (.all rfl) (.s (.s (.s .z))) ?_
              refine ops_nil ?_
              refine then_ ?_
              refine ret_ ?_
              obtain rfl := retE h
              refine bR (tR (rwr (rw_ (.cellA (ys := [.pv (.int .i64 v16.1.Lo), .pv (.int .i64 v16.1.Hi)]) ty53 rfl rfl (by kernel_rfl) (by kernel_rfl) (.cellA (ys := [.pv (.bool v16.2.Overflow), .pv (.bool v16.2.DivZero)]) ty120 rfl rfl (by kernel_rfl) (by kernel_rfl) .nil)) ?_)))
              refine w_none 0 .z ?_
              refine w_none 1 (.s .z) ?_
              refine w_none 2 (.s (.s .z)) ?_
              refine w_none 3 (.s (.s (.s .z))) ?_
              refine w_cut 0 rfl rfl rfl rfl ?_
              exact wkE (by kernel_rfl) (by kernel_rfl)
            · have h := iteF h k21
              refine seq_ ?_
              refine region_ ?_
              refine R tbok 2 [61, 30, 0, 4, 5, 6, 7] [(61, [.c (.pv (.bool (a0 == 6)))]), (30, [.c (.pv (.int .i64 a0))]), (0, [.c (.pv (.int .i64 a0))]), (4, [.c (.box 0 0)]), (5, [.c (.box 1 0)]), (6, [.c (.box 2 0)]), (7, [.c (.box 3 0)])] (by kernel_rfl) ?_
              refine ops_nil ?_
              refine then_ ?_
              refine cond_ (b := (a0 == 6)) rfl (fun k23 => ?_) (fun k23 => ?_)
              · have h := iteT h k23
                refine seq_ ?_
                refine region_ ?_
                refine R tbok 2 [64, 63, 6, 7] [(64, [.agg [.pv (.int .i64 v11.Lo), .pv (.int .i64 v11.Hi)]]), (63, [.agg [.pv (.int .i64 v7.Lo), .pv (.int .i64 v7.Hi)]]), (6, [.c (.box 2 0)]), (7, [.c (.box 3 0)])] (by kernel_rfl) ?_
                obtain ⟨v17, k24, h⟩ := bindE h
                refine C rfl rfl (fl_call rfl Try.call101 rfl (by kernel_rfl) (by kernel_rfl) (itv_corners_itv_Do_1_meets k24)) rfl ?_
                refine R tbok 2 [67, 66, 6, 7] [(67, [.c (.pv (.int .i64 v17.2))]), (66, [.c (.pv (.int .i64 v17.1))]), (6, [.c (.box 2 0)]), (7, [.c (.box 3 0)])] (by kernel_rfl) ?_
                obtain ⟨v18, k25, h⟩ := bindE h
                refine C rfl rfl (fl_call rfl Try.call100 rfl (by kernel_rfl) (by kernel_rfl) (itv_cut_meets k25)) rfl ?_
                refine R tbok 2 [70, 69, 6, 7] [(70, [.agg [.pv (.bool v18.2.Overflow), .pv (.bool v18.2.DivZero)]]), (69, [.agg [.pv (.int .i64 v18.1.Lo), .pv (.int .i64 v18.1.Hi)]]), (6, [.c (.box 2 0)]), (7, [.c (.box 3 0)])] (by kernel_rfl) ?_
                refine S rfl rfl rfl ty53 (by decide) rfl rfl rfl rfl rfl (.all rfl) (.s (.s .z)) ?_
                refine S rfl rfl rfl ty120 (by decide) rfl rfl rfl rfl rfl (.all rfl) (.s (.s (.s .z))) ?_
                refine ops_nil ?_
                refine then_ ?_
                refine ret_ ?_
                obtain rfl := retE h
                refine bR (tR (rwr (rw_ (.cellA (ys := [.pv (.int .i64 v18.1.Lo), .pv (.int .i64 v18.1.Hi)]) ty53 rfl rfl (by kernel_rfl) (by kernel_rfl) (.cellA (ys := [.pv (.bool v18.2.Overflow), .pv (.bool v18.2.DivZero)]) ty120 rfl rfl (by kernel_rfl) (by kernel_rfl) .nil)) ?_)))
                refine w_none 0 .z ?_
                refine w_none 1 (.s .z) ?_
                refine w_none 2 (.s (.s .z)) ?_
                refine w_none 3 (.s (.s (.s .z))) ?_
                refine w_cut 0 rfl rfl rfl rfl ?_
                exact wkE (by kernel_rfl) (by kernel_rfl)
              · have h := iteF h k23
                refine seq_ ?_
                refine jn_ (fun (j3 : Bool) => (⟨82, 0, [(0, [.c (.pv (.int .i64 a0))]), (4, [.c (.box 0 0)]), (5, [.c (.box 1 0)]), (6, [.c (.box 2 0)]), (7, [.c (.box 3 0)]), (71, [.c (.pv (.bool j3))])], [some (.box true 53 [.pv (.int .i64 v7.Lo), .pv (.int .i64 v7.Hi)]), some (.box true 53 [.pv (.int .i64 v11.Lo), .pv (.int .i64 v11.Hi)]), some (.box true 53 [.pv (.int .i64 0), .pv (.int .i64 0)]), some (.box true 120 [.pv (.bool false), .pv (.bool false)])]⟩ : Sx)) h wT (fun o h => ?_) (fun j3 h => ?_)
                · refine seq_ ?_
                  refine region_ ?_
                  refine R tbok 2 [71, 30, 0, 4, 5, 6, 7] [(71, [.c (.pv (.bool (a0 == 7)))]), (30, [.c (.pv (.int .i64 a0))]), (0, [.c (.pv (.int .i64 a0))]), (4, [.c (.box 0 0)]), (5, [.c (.box 1 0)]), (6, [.c (.box 2 0)]), (7, [.c (.box 3 0)])] (by kernel_rfl) ?_
                  refine ops_nil ?_
                  refine then_ ?_
                  refine cond_ (b := (a0 == 7)) rfl (fun k26 => ?_) (fun k26 => ?_)
                  · have h := iteT h k26
                    refine skip_ ?_
                    obtain rfl := retE h
                    refine mN ?_
                    refine w_sub (env' := [(0, [.c (.pv (.int .i64 a0))]), (4, [.c (.box 0 0)]), (5, [.c (.box 1 0)]), (6, [.c (.box 2 0)]), (7, [.c (.box 3 0)]), (71, [.c (.pv (.bool (a0 == 7)))])]) (sub_cons rfl (sub_cons rfl (sub_cons rfl (sub_cons rfl (sub_cons rfl (sub_cons rfl sub_nil)))))) ?_
                    exact wkE (by kernel_rfl) (by kernel_rfl)
                  · have h := iteF h k26
                    refine region_ ?_
                    refine R tbok 2 [71, 0, 4, 5, 6, 7] [(71, [.c (.pv (.bool (a0 == 8)))]), (0, [.c (.pv (.int .i64 a0))]), (4, [.c (.box 0 0)]), (5, [.c (.box 1 0)]), (6, [.c (.box 2 0)]), (7, [.c (.box 3 0)])] (by kernel_rfl) ?_
                    refine ops_nil ?_
                    obtain rfl := retE h
                    refine mN ?_
                    refine w_sub (env' := [(0, [.c (.pv (.int .i64 a0))]), (4, [.c (.box 0 0)]), (5, [.c (.box 1 0)]), (6, [.c (.box 2 0)]), (7, [.c (.box 3 0)]), (71, [.c (.pv (.bool (a0 == 8)))])]) (sub_cons rfl (sub_cons rfl (sub_cons rfl (sub_cons rfl (sub_cons rfl (sub_cons rfl sub_nil)))))) ?_
                    exact wkE (by kernel_rfl) (by kernel_rfl)
                · refine then_ ?_
                  refine cond_ (b := j3) rfl (fun k27 => ?_) (fun k27 => ?_)
                  · have h := iteT h k27
                    refine seq_ ?_
                    refine region_ ?_
                    refine R tbok 3 [76, 75, 74, 6, 7] [(76, [.agg [.pv (.int .i64 v11.Lo), .pv (.int .i64 v11.Hi)]]), (75, [.agg [.pv (.int .i64 v7.Lo), .pv (.int .i64 v7.Hi)]]), (74, [.c (.pv (.int .i64 a0))]), (6, [.c (.box 2 0)]), (7, [.c (.box 3 0)])] (by kernel_rfl) ?_
                    obtain ⟨v19, k28, h⟩ := bindE h
                    refine C rfl rfl (fl_call rfl Try.call103 rfl (by kernel_rfl) (by kernel_rfl) (itv_divided_meets k28)) rfl ?_
                    refine R tbok 2 [79, 78, 6, 7] [(79, [.agg [.pv (.bool v19.2.Overflow), .pv (.bool v19.2.DivZero)]]), (78, [.agg [.pv (.int .i64 v19.1.Lo), .pv (.int .i64 v19.1.Hi)]]), (6, [.c (.box 2 0)]), (7, [.c (.box 3 0)])] (by kernel_rfl) ?_
                    refine S rfl rfl rfl ty53 (by decide) rfl rfl rfl rfl rfl (.all rfl) (.s (.s .z)) ?_
                    refine S rfl rfl rfl ty120 (by decide) rfl rfl rfl rfl rfl (.all rfl) (.s (.s (.s .z))) ?_
                    refine ops_nil ?_
                    refine then_ ?_
                    refine ret_ ?_
                    obtain rfl := retE h
                    refine bR (tR (rwr (rw_ (.cellA (ys := [.pv (.int .i64 v19.1.Lo), .pv (.int .i64 v19.1.Hi)]) ty53 rfl rfl (by kernel_rfl) (by kernel_rfl) (.cellA (ys := [.pv (.bool v19.2.Overflow), .pv (.bool v19.2.DivZero)]) ty120 rfl rfl (by kernel_rfl) (by kernel_rfl) .nil)) ?_)))
                    refine w_none 0 .z ?_
                    refine w_none 1 (.s .z) ?_
                    refine w_none 2 (.s (.s .z)) ?_
                    refine w_none 3 (.s (.s (.s .z))) ?_
                    refine w_cut 0 rfl rfl rfl rfl ?_
                    exact wkE (by kernel_rfl) (by kernel_rfl)
                  · have h := iteF h k27
                    refine skip_ ?_
                    refine bN ?_
                    refine then_ ?_
                    refine seq_ ?_
                    refine region_ ?_
                    obtain ⟨v20, k29, h⟩ := bindE h
                    refine C rfl rfl (fl_call rfl Try.call22 rfl (by kernel_rfl) (by kernel_rfl) (itv_None_meets k29)) rfl ?_
                    refine L rfl rfl (lt_build (cs := [.pv (.bool false), .pv (.bool false)]) rfl st120 rfl (by kernel_rfl)) rfl ?_
                    refine S rfl rfl rfl ty53 (by decide) rfl rfl rfl rfl rfl (.all rfl) (.s (.s .z)) ?_
                    refine S rfl rfl rfl ty120 (by decide) rfl rfl rfl rfl rfl (.all rfl) (.s (.s (.s .z))) ?_
                    refine ops_nil ?_
                    refine then_ ?_
                    refine ret_ ?_
                    obtain rfl := retE h
                    refine rwr (rw_ (.cellA (ys := [.pv (.int .i64 v20.Lo), .pv (.int .i64 v20.Hi)]) ty53 rfl rfl (by kernel_rfl) (by kernel_rfl) (.cellA (ys := [.pv (.bool false), .pv (.bool false)]) ty120 rfl rfl (by kernel_rfl) (by kernel_rfl) .nil)) ?_)
                    refine w_none 0 .z ?_
                    refine w_none 1 (.s .z) ?_
                    refine w_none 2 (.s (.s .z)) ?_
                    refine w_none 3 (.s (.s (.s .z))) ?_
                    refine w_cut 0 rfl rfl rfl rfl ?_
                    exact wkE (by kernel_rfl) (by kernel_rfl)

theorem itv_Neg_meets {a0 : itv_Itv} {r : (itv_Itv × itv_Errs)} (h : itv_Neg a0 = some r) : MeetsV Try.prog GG 82 [.agg [.pv (.int .i64 a0.Lo), .pv (.int .i64 a0.Hi)]] [.agg [.pv (.int .i64 r.1.Lo), .pv (.int .i64 r.1.Hi)], .agg [.pv (.bool r.2.Overflow), .pv (.bool r.2.DivZero)]] := by
  refine MeetsS.toV (meetsW_of (st0 := []) (N := 9) r_itv_Neg o_itv_Neg r Try.func82 rfl rfl rfl (by dsimp only [argEnv]) rfl ?_) rfl
  unfold itv_Neg at h
  refine seq_ ?_
  refine region_ ?_
  refine B rfl rfl (bir_box rfl rfl rfl) rfl rfl .z ?_
  refine B rfl rfl (bir_alloc rfl z53 rfl rfl) rfl rfl (.s .z) ?_
  refine B rfl rfl (bir_alloc rfl z120 rfl rfl) rfl rfl (.s (.s .z)) ?_
  refine ops_nil ?_
  refine then_ ?_
  refine seq_ ?_
  refine drawn_ mixed ?_
  obtain ⟨v2, k2, h⟩ := bindE h
  refine dl (t := 4) 0 [.agg [.pv (.int .i64 v2.Lo), .pv (.int .i64 v2.Hi)]] rfl ?_
  refine dl (t := 5) 1 [.agg [.pv (.int .i64 a0.Lo), .pv (.int .i64 a0.Hi)]] rfl ?_
  obtain ⟨v4, k4, h⟩ := bindE h
  refine dl (t := 6) 2 [.agg [.pv (.int .i64 v4.1.Lo), .pv (.int .i64 v4.1.Hi)], .agg [.pv (.bool v4.2.Overflow), .pv (.bool v4.2.DivZero)]] rfl ?_
  refine dl (t := 7) 3 [.agg [.pv (.int .i64 v4.1.Lo), .pv (.int .i64 v4.1.Hi)]] rfl ?_
  refine dl (t := 8) 4 [.agg [.pv (.bool v4.2.Overflow), .pv (.bool v4.2.DivZero)]] rfl ?_
  refine d_store (wm [0, 0, 3, 7, 7, 31, 63]) 5 rfl (by kernel_rfl) (by kernel_rfl) (by kernel_rfl) (by kernel_rfl) (by kernel_rfl) (gi0 rfl) (oE tbok [] 2 (by kernel_rfl) (oL [] rfl (by kernel_rfl) (fl_call rfl Try.call95 rfl (by kernel_rfl) (by kernel_rfl) (itv_Do_meets k4)) (oE tbok [] 1 (by kernel_rfl) (oL [] rfl (by kernel_rfl) (fl_call rfl Try.call15 rfl (by kernel_rfl) (by kernel_rfl) (itv_Const_meets k2)) trivial)))) rfl rfl ty53 rfl rfl rfl rfl rfl rfl (putE 2 (.all rfl) rfl (by decide)) (SetAt.eq (.s .z)) ?_
  refine d_store (wm [0, 0, 3, 7, 7, 31, 63]) 6 rfl (by kernel_rfl) (by kernel_rfl) (by kernel_rfl) (by kernel_rfl) (by kernel_rfl) (gi0 rfl) (oN 6 (by kernel_rfl) trivial) rfl rfl ty120 rfl rfl rfl rfl rfl rfl (putE 2 (.all rfl) rfl (by decide)) (SetAt.eq (.s (.s .z))) ?_
  refine d_endS (env2 := [(3, [.c (.box 2 0)]), (2, [.c (.box 1 0)])]) (wm [0, 0, 3, 7, 7, 31, 63]) (by kernel_rfl) (by kernel_rfl) (by kernel_rfl) (oN 7 (by kernel_rfl) trivial) (sub_cons rfl (sub_cons rfl sub_nil)) wT ?_
  refine then_ ?_
  refine ret_ ?_
  obtain rfl := retE h
  refine rwr (rw_ (.cellA (ys := [.pv (.int .i64 v4.1.Lo), .pv (.int .i64 v4.1.Hi)]) ty53 rfl rfl (by kernel_rfl) (by kernel_rfl) (.cellA (ys := [.pv (.bool v4.2.Overflow), .pv (.bool v4.2.DivZero)]) ty120 rfl rfl (by kernel_rfl) (by kernel_rfl) .nil)) ?_)
  refine w_none 0 .z ?_
  refine w_none 1 (.s .z) ?_
  refine w_none 2 (.s (.s .z)) ?_
  refine w_cut 0 rfl rfl rfl rfl ?_
  exact wkE (by kernel_rfl) (by kernel_rfl)

theorem eval_either_meets {a0 : itv_Errs} {a1 : itv_Errs} {r : itv_Errs} (h : eval_either a0 a1 = some r) : MeetsV Try.prog GG 83 [.agg [.pv (.bool a0.Overflow), .pv (.bool a0.DivZero)], .agg [.pv (.bool a1.Overflow), .pv (.bool a1.DivZero)]] [.agg [.pv (.bool r.Overflow), .pv (.bool r.DivZero)]] := by
  refine MeetsS.toV (meetsW_of (st0 := []) (N := 18) r_eval_either o_eval_either r Try.func83 rfl rfl rfl (by dsimp only [argEnv]) rfl ?_) rfl
  unfold eval_either at h
  refine seq_ ?_
  refine region_ ?_
  refine B rfl rfl (bir_box rfl rfl rfl) rfl rfl .z ?_
  refine B rfl rfl (bir_box rfl rfl rfl) rfl rfl (.s .z) ?_
  refine B rfl rfl (bir_alloc rfl z120 rfl rfl) rfl rfl (.s (.s .z)) ?_
  refine ops_nil ?_
  refine then_ ?_
  refine seq_ ?_
  refine jn_ (fun (j1 : (Bool × Bool)) => (⟨18, 0, [(4, [.c (.box 2 0)])], [none, none, some (.box true 120 [.pv (.bool j1.1), .pv (.bool j1.2)])]⟩ : Sx)) h wT (fun o h => ?_) (fun j1 h => ?_)
  · refine region_ ?_
    refine R tbok 3 [7, 4, 3, 2] [(7, [.c (.pv (.bool a0.Overflow))]), (4, [.c (.box 2 0)]), (3, [.c (.box 1 0)]), (2, [.c (.box 0 0)])] (by kernel_rfl) ?_
    refine (tf a0.Overflow).elim (fun k1 => ?_) (fun k1 => ?_)
    · have h := iteT h k1
      refine Ls0 rfl rfl rfl k1 rfl rfl ?_
      refine Ls0 rfl rfl rfl k1 rfl rfl ?_
      refine L rfl rfl (lt_pickT rfl rfl k1 rfl) rfl ?_
      refine R tbok 3 [13, 10, 4, 3] [(13, [.c (.pv (.bool a0.DivZero))]), (10, [.c (.pv (.bool true))]), (4, [.c (.box 2 0)]), (3, [.c (.box 1 0)])] (by kernel_rfl) ?_
      refine (tf a0.DivZero).elim (fun k2 => ?_) (fun k2 => ?_)
      · have h := iteT h k2
        refine Ls0 rfl rfl rfl k2 rfl rfl ?_
        refine Ls0 rfl rfl rfl k2 rfl rfl ?_
        refine L rfl rfl (lt_pickT rfl rfl k2 rfl) rfl ?_
        refine L rfl rfl (lt_build (cs := [.pv (.bool true), .pv (.bool true)]) rfl st120 rfl (by kernel_rfl)) rfl ?_
        refine S rfl rfl rfl ty120 (by decide) rfl rfl rfl rfl rfl (.all rfl) (.s (.s .z)) ?_
        refine ops_nil ?_
        obtain rfl := retE h
        refine mN ?_
        refine w_sub (env' := [(4, [.c (.box 2 0)])]) (sub_cons rfl sub_nil) ?_
        refine w_none 0 .z ?_
        refine w_none 1 (.s .z) ?_
        exact wkE (by kernel_rfl) (by kernel_rfl)
      · have h := iteF h k2
        refine Lg rfl rfl rfl k2 rfl (lt_fa_box rfl f120_1 ty4 (by decide) rfl) rfl ?_
        refine Lg rfl rfl rfl k2 rfl (lt_load_box rfl ty4 rfl rfl rfl) rfl ?_
        refine L rfl rfl (lt_pickF rfl rfl k2 rfl) rfl ?_
        refine L rfl rfl (lt_build (cs := [.pv (.bool true), .pv (.bool a1.DivZero)]) rfl st120 rfl (by kernel_rfl)) rfl ?_
        refine S rfl rfl rfl ty120 (by decide) rfl rfl rfl rfl rfl (.all rfl) (.s (.s .z)) ?_
        refine ops_nil ?_
        obtain rfl := retE h
        refine mN ?_
        refine w_sub (env' := [(4, [.c (.box 2 0)])]) (sub_cons rfl sub_nil) ?_
        refine w_none 0 .z ?_
        refine w_none 1 (.s .z) ?_
        exact wkE (by kernel_rfl) (by kernel_rfl)
    · have h := iteF h k1
      refine Lg rfl rfl rfl k1 rfl (lt_fa_box rfl f120_0 ty4 (by decide) rfl) rfl ?_
      refine Lg rfl rfl rfl k1 rfl (lt_load_box rfl ty4 rfl rfl rfl) rfl ?_
      refine L rfl rfl (lt_pickF rfl rfl k1 rfl) rfl ?_
      refine R tbok 3 [13, 10, 4, 3] [(13, [.c (.pv (.bool a0.DivZero))]), (10, [.c (.pv (.bool a1.Overflow))]), (4, [.c (.box 2 0)]), (3, [.c (.box 1 0)])] (by kernel_rfl) ?_
      refine (tf a0.DivZero).elim (fun k3 => ?_) (fun k3 => ?_)
      · have h := iteT h k3
        refine Ls0 rfl rfl rfl k3 rfl rfl ?_
        refine Ls0 rfl rfl rfl k3 rfl rfl ?_
        refine L rfl rfl (lt_pickT rfl rfl k3 rfl) rfl ?_
        refine L rfl rfl (lt_build (cs := [.pv (.bool a1.Overflow), .pv (.bool true)]) rfl st120 rfl (by kernel_rfl)) rfl ?_
        refine S rfl rfl rfl ty120 (by decide) rfl rfl rfl rfl rfl (.all rfl) (.s (.s .z)) ?_
        refine ops_nil ?_
        obtain rfl := retE h
        refine mN ?_
        refine w_sub (env' := [(4, [.c (.box 2 0)])]) (sub_cons rfl sub_nil) ?_
        refine w_none 0 .z ?_
        refine w_none 1 (.s .z) ?_
        exact wkE (by kernel_rfl) (by kernel_rfl)
      · have h := iteF h k3
        refine Lg rfl rfl rfl k3 rfl (lt_fa_box rfl f120_1 ty4 (by decide) rfl) rfl ?_
        refine Lg rfl rfl rfl k3 rfl (lt_load_box rfl ty4 rfl rfl rfl) rfl ?_
        refine L rfl rfl (lt_pickF rfl rfl k3 rfl) rfl ?_
        refine L rfl rfl (lt_build (cs := [.pv (.bool a1.Overflow), .pv (.bool a1.DivZero)]) rfl st120 rfl (by kernel_rfl)) rfl ?_
        refine S rfl rfl rfl ty120 (by decide) rfl rfl rfl rfl rfl (.all rfl) (.s (.s .z)) ?_
        refine ops_nil ?_
        obtain rfl := retE h
        refine mN ?_
        refine w_sub (env' := [(4, [.c (.box 2 0)])]) (sub_cons rfl sub_nil) ?_
        refine w_none 0 .z ?_
        refine w_none 1 (.s .z) ?_
        exact wkE (by kernel_rfl) (by kernel_rfl)
  · refine then_ ?_
    refine ret_ ?_
    obtain rfl := retE h
    refine rwr (rw_ (.cellA (ys := [.pv (.bool j1.1), .pv (.bool j1.2)]) ty120 rfl rfl (by kernel_rfl) (by kernel_rfl) .nil) ?_)
    refine w_none 2 (.s (.s .z)) ?_
    refine w_cut 0 rfl rfl rfl rfl ?_
    exact wkE (by kernel_rfl) (by kernel_rfl)

theorem eval_Eval_step {n : Nat} (ih_eval_Eval : ∀ (a0 : check_Expr) (a1 : num_Num) (r : (itv_Itv × itv_Errs)), eval_EvalN n a0 a1 = some r → MeetsV Try.prog GG 62 [.agg [.pv (.int .i64 a0.Kind), .pv (.int .i64 a0.Num), .pv (.int .i64 a0.Var), .pv (.sl (List.map e_check_Expr a0.Kids))], .agg (bs (e_num_Num a1))] [.agg [.pv (.int .i64 r.1.Lo), .pv (.int .i64 r.1.Hi)], .agg [.pv (.bool r.2.Overflow), .pv (.bool r.2.DivZero)]]) (ih_eval_two : ∀ (a0 : check_Expr) (a1 : num_Num) (r : (itv_Itv × itv_Errs)), eval_twoN n a0 a1 = some r → MeetsV Try.prog GG 84 [.agg [.pv (.int .i64 a0.Kind), .pv (.int .i64 a0.Num), .pv (.int .i64 a0.Var), .pv (.sl (List.map e_check_Expr a0.Kids))], .agg (bs (e_num_Num a1))] [.agg [.pv (.int .i64 r.1.Lo), .pv (.int .i64 r.1.Hi)], .agg [.pv (.bool r.2.Overflow), .pv (.bool r.2.DivZero)]]) (a0 : check_Expr) (a1 : num_Num) (r : (itv_Itv × itv_Errs)) (h : eval_EvalN (n + 1) a0 a1 = some r) : MeetsV Try.prog GG 62 [.agg [.pv (.int .i64 a0.Kind), .pv (.int .i64 a0.Num), .pv (.int .i64 a0.Var), .pv (.sl (List.map e_check_Expr a0.Kids))], .agg (bs (e_num_Num a1))] [.agg [.pv (.int .i64 r.1.Lo), .pv (.int .i64 r.1.Hi)], .agg [.pv (.bool r.2.Overflow), .pv (.bool r.2.DivZero)]] := by
  refine MeetsS.toV (meetsW_of (st0 := []) (N := 95) r_eval_Eval o_eval_Eval r Try.func62 rfl rfl rfl (by dsimp only [argEnv]) rfl ?_) rfl
  rw [eval_EvalN] at h
  refine seq_ ?_
  refine region_ ?_
  refine B rfl rfl (bir_box rfl rfl rfl) rfl rfl .z ?_
  refine B rfl rfl (bir_box rfl rfl rfl) rfl rfl (.s .z) ?_
  refine B rfl rfl (bir_alloc rfl z53 rfl rfl) rfl rfl (.s (.s .z)) ?_
  refine B rfl rfl (bir_alloc rfl z120 rfl rfl) rfl rfl (.s (.s (.s .z))) ?_
  refine ops_nil ?_
  refine then_ ?_
  refine seq_ ?_
  refine jr_ (Qr := RW Try.prog GG Try.f62 0 r_eval_Eval o_eval_Eval) (fun (j1 : Unit) => (⟨95, 0, [(4, [.c (.box 2 0)]), (5, [.c (.box 3 0)])], [none, none, some (.box true 53 [.pv (.int .i64 0), .pv (.int .i64 0)]), some (.box true 120 [.pv (.bool false), .pv (.bool false)])]⟩ : Sx)) RW.only h wT (fun o h => ?_) (fun r h s' hs => ?_) (fun j1 h => ?_)
  · refine block_ ?_
    refine seq_ ?_
    refine region_ ?_
    refine R tbok 3 [10, 5, 4, 3, 2] [(10, [.c (.pv (.bool a1.None))]), (5, [.c (.box 3 0)]), (4, [.c (.box 2 0)]), (3, [.c (.box 1 0)]), (2, [.c (.box 0 0)])] (by kernel_rfl) ?_
    refine ops_nil ?_
    refine then_ ?_
    refine cond_ (b := a1.None) rfl (fun k1 => ?_) (fun k1 => ?_)
    · have h := iteT h k1
      refine skip_ ?_
      refine bN ?_
      obtain rfl := retE h
      refine mRN ?_
      refine w_sub (env' := [(4, [.c (.box 2 0)]), (5, [.c (.box 3 0)])]) (sub_cons rfl (sub_cons rfl sub_nil)) ?_
      refine w_none 0 .z ?_
      refine w_none 1 (.s .z) ?_
      exact wkE (by kernel_rfl) (by kernel_rfl)
    · have h := iteF h k1
      refine seq_ ?_
      refine region_ ?_
      refine R tbok 4 [13, 5, 4, 3, 2] [(13, [.c (.pv (.bool (a0.Kind == 1)))]), (5, [.c (.box 3 0)]), (4, [.c (.box 2 0)]), (3, [.c (.box 1 0)]), (2, [.c (.box 0 0)])] (by kernel_rfl) ?_
      refine ops_nil ?_
      refine then_ ?_
      refine cond_ (b := (a0.Kind == 1)) rfl (fun k2 => ?_) (fun k2 => ?_)
      · have h := iteT h k2
        refine seq_ ?_
        refine region_ ?_
        refine R tbok 2 [18, 5, 4] [(18, [.c (.pv (.int .i64 a0.Num))]), (5, [.c (.box 3 0)]), (4, [.c (.box 2 0)])] (by kernel_rfl) ?_
        obtain ⟨v1, k3, h⟩ := bindE h
        refine C rfl rfl (fl_call rfl Try.call15 rfl (by kernel_rfl) (by kernel_rfl) (itv_Const_meets k3)) rfl ?_
        refine L rfl rfl (lt_build (cs := [.pv (.bool false), .pv (.bool false)]) rfl st120 rfl (by kernel_rfl)) rfl ?_
        refine S rfl rfl rfl ty53 (by decide) rfl rfl rfl rfl rfl (.all rfl) (.s (.s .z)) ?_
        refine S rfl rfl rfl ty120 (by decide) rfl rfl rfl rfl rfl (.all rfl) (.s (.s (.s .z))) ?_
        refine ops_nil ?_
        refine then_ ?_
        refine ret_ ?_
        obtain rfl := retE h
        refine bR (mRR (rw_ (.cellA (ys := [.pv (.int .i64 v1.Lo), .pv (.int .i64 v1.Hi)]) ty53 rfl rfl (by kernel_rfl) (by kernel_rfl) (.cellA (ys := [.pv (.bool false), .pv (.bool false)]) ty120 rfl rfl (by kernel_rfl) (by kernel_rfl) .nil)) ?_))
        refine w_none 0 .z ?_
        refine w_none 1 (.s .z) ?_
        refine w_none 2 (.s (.s .z)) ?_
        refine w_none 3 (.s (.s (.s .z))) ?_
        refine w_cut 0 rfl rfl rfl rfl ?_
        exact wkE (by kernel_rfl) (by kernel_rfl)
      · have h := iteF h k2
        refine seq_ ?_
        refine jn_ (fun (j2 : Bool) => (⟨95, 0, [(2, [.c (.box 0 0)]), (3, [.c (.box 1 0)]), (4, [.c (.box 2 0)]), (5, [.c (.box 3 0)]), (21, [.c (.pv (.bool j2))])], [some (.box true 25 [.pv (.int .i64 a0.Kind), .pv (.int .i64 a0.Num), .pv (.int .i64 a0.Var), .pv (.sl (List.map e_check_Expr a0.Kids))]), some (.box true 46 (bs (e_num_Num a1))), some (.box true 53 [.pv (.int .i64 0), .pv (.int .i64 0)]), some (.box true 120 [.pv (.bool false), .pv (.bool false)])]⟩ : Sx)) h wT (fun o h => ?_) (fun j2 h => ?_)
        · refine region_ ?_
          refine R tbok 4 [25, 5, 4, 3, 2] [(25, [.c (.pv (.bool (a0.Kind == 2)))]), (5, [.c (.box 3 0)]), (4, [.c (.box 2 0)]), (3, [.c (.box 1 0)]), (2, [.c (.box 0 0)])] (by kernel_rfl) ?_
          refine (tf (a0.Kind == 2)).elim (fun k4 => ?_) (fun k4 => ?_)
          · have h := iteT h k4
            refine Lg rfl rfl rfl k4 rfl (lt_fa_box rfl f25_2 ty3 (by decide) rfl) rfl ?_
            refine Lg rfl rfl rfl k4 rfl (lt_load_box rfl ty3 rfl rfl rfl) rfl ?_
            refine Lg rfl rfl rfl k4 rfl (lt_int rfl rfl rfl rfl) rfl ?_
            refine L rfl rfl (lt_pickT rfl rfl k4 rfl) rfl ?_
            refine R tbok 1 [30, 5, 4, 3, 2] [(30, [.c (.pv (.bool (decide (a0.Var ≥ 0))))]), (5, [.c (.box 3 0)]), (4, [.c (.box 2 0)]), (3, [.c (.box 1 0)]), (2, [.c (.box 0 0)])] (by kernel_rfl) ?_
            refine (tf (decide (a0.Var ≥ 0))).elim (fun k5 => ?_) (fun k5 => ?_)
            · have h := iteT h k5
              refine Lg rfl rfl rfl k5 rfl (lt_fa_box rfl f25_2 ty3 (by decide) rfl) rfl ?_
              refine Lg rfl rfl rfl k5 rfl (lt_load_box rfl ty3 rfl rfl rfl) rfl ?_
              refine Lg rfl rfl rfl k5 rfl (lt_fa_box rfl f46_1 ty40 (by decide) rfl) rfl ?_
              refine Lg rfl rfl rfl k5 rfl (lt_load_box rfl ty40 rfl rfl rfl) rfl ?_
              refine Lg rfl rfl rfl k5 rfl (len_sl (e := e_itv_Itv) rfl u40 rfl) rfl ?_
              refine Lg rfl rfl rfl k5 rfl (lt_int rfl rfl rfl rfl) rfl ?_
              refine L rfl rfl (lt_pickT rfl rfl k5 rfl) rfl ?_
              refine R tbok 1 [21, 5, 4, 3, 2] [(21, [.c (.pv (.bool (decide (a0.Var < (a1.I.length : Int)))))]), (5, [.c (.box 3 0)]), (4, [.c (.box 2 0)]), (3, [.c (.box 1 0)]), (2, [.c (.box 0 0)])] (by kernel_rfl) ?_
              refine ops_nil ?_
              obtain rfl := retE h
              refine mN ?_
              refine w_sub (env' := [(2, [.c (.box 0 0)]), (3, [.c (.box 1 0)]), (4, [.c (.box 2 0)]), (5, [.c (.box 3 0)]), (21, [.c (.pv (.bool (decide (a0.Var < (a1.I.length : Int)))))])]) (sub_cons rfl (sub_cons rfl (sub_cons rfl (sub_cons rfl (sub_cons rfl sub_nil))))) ?_
              exact wkE (by kernel_rfl) (by kernel_rfl)
            · have h := iteF h k5
              refine Ls0 rfl rfl rfl k5 rfl rfl ?_
              refine Ls0 rfl rfl rfl k5 rfl rfl ?_
              refine Ls0 rfl rfl rfl k5 rfl rfl ?_
              refine Ls0 rfl rfl rfl k5 rfl rfl ?_
              refine Ls0 rfl rfl rfl k5 rfl rfl ?_
              refine Ls0 rfl rfl rfl k5 rfl rfl ?_
              refine L rfl rfl (lt_pickF rfl rfl k5 rfl) rfl ?_
              refine R tbok 1 [21, 5, 4, 3, 2] [(21, [.c (.pv (.bool false))]), (5, [.c (.box 3 0)]), (4, [.c (.box 2 0)]), (3, [.c (.box 1 0)]), (2, [.c (.box 0 0)])] (by kernel_rfl) ?_
              refine ops_nil ?_
              obtain rfl := retE h
              refine mN ?_
              refine w_sub (env' := [(2, [.c (.box 0 0)]), (3, [.c (.box 1 0)]), (4, [.c (.box 2 0)]), (5, [.c (.box 3 0)]), (21, [.c (.pv (.bool false))])]) (sub_cons rfl (sub_cons rfl (sub_cons rfl (sub_cons rfl (sub_cons rfl sub_nil))))) ?_
              exact wkE (by kernel_rfl) (by kernel_rfl)
          · have h := iteF h k4
            refine Ls0 rfl rfl rfl k4 rfl rfl ?_
            refine Ls0 rfl rfl rfl k4 rfl rfl ?_
            refine Ls0 rfl rfl rfl k4 rfl rfl ?_
            refine L rfl rfl (lt_pickF rfl rfl k4 rfl) rfl ?_
            refine R tbok 1 [30, 5, 4, 3, 2] [(30, [.c (.pv (.bool false))]), (5, [.c (.box 3 0)]), (4, [.c (.box 2 0)]), (3, [.c (.box 1 0)]), (2, [.c (.box 0 0)])] (by kernel_rfl) ?_
            refine Ls0 rfl rfl rfl rfl rfl rfl ?_
            refine Ls0 rfl rfl rfl rfl rfl rfl ?_
            refine Ls0 rfl rfl rfl rfl rfl rfl ?_
            refine Ls0 rfl rfl rfl rfl rfl rfl ?_
            refine Ls0 rfl rfl rfl rfl rfl rfl ?_
            refine Ls0 rfl rfl rfl rfl rfl rfl ?_
            refine L rfl rfl (lt_pickF rfl rfl rfl rfl) rfl ?_
            refine R tbok 1 [21, 5, 4, 3, 2] [(21, [.c (.pv (.bool false))]), (5, [.c (.box 3 0)]), (4, [.c (.box 2 0)]), (3, [.c (.box 1 0)]), (2, [.c (.box 0 0)])] (by kernel_rfl) ?_
            refine ops_nil ?_
            obtain rfl := retE h
            refine mN ?_
            refine w_sub (env' := [(2, [.c (.box 0 0)]), (3, [.c (.box 1 0)]), (4, [.c (.box 2 0)]), (5, [.c (.box 3 0)]), (21, [.c (.pv (.bool false))])]) (sub_cons rfl (sub_cons rfl (sub_cons rfl (sub_cons rfl (sub_cons rfl sub_nil))))) ?_
            exact wkE (by kernel_rfl) (by kernel_rfl)
        · refine then_ ?_
          refine cond_ (b := j2) rfl (fun k6 => ?_) (fun k6 => ?_)
          · have h := iteT h k6
            refine seq_ ?_
            refine region_ ?_
            refine R tbok 4 [41, 39, 4, 5] [(41, [.c (.pv (.int .i64 a0.Var))]), (39, [.c (.pv (.sl (List.map e_itv_Itv a1.I)))]), (4, [.c (.box 2 0)]), (5, [.c (.box 3 0)])] (by kernel_rfl) ?_
            obtain ⟨v2, k7, h⟩ := bindE h
            refine L rfl rfl (ia_sl (e := e_itv_Itv) (y := v2) rfl u40 ty53 rfl rfl k7 rfl) rfl ?_
            refine R tbok 1 [43, 4, 5] [(43, [.agg [.pv (.int .i64 v2.Lo), .pv (.int .i64 v2.Hi)]]), (4, [.c (.box 2 0)]), (5, [.c (.box 3 0)])] (by kernel_rfl) ?_
            refine L rfl rfl (lt_build (cs := [.pv (.bool false), .pv (.bool false)]) rfl st120 rfl (by kernel_rfl)) rfl ?_
            refine S rfl rfl rfl ty53 (by decide) rfl rfl rfl rfl rfl (.all rfl) (.s (.s .z)) ?_
            refine S rfl rfl rfl ty120 (by decide) rfl rfl rfl rfl rfl (.all rfl) (.s (.s (.s .z))) ?_
            refine ops_nil ?_
            refine then_ ?_
            refine ret_ ?_
            obtain rfl := retE h
            refine bR (mRR (rw_ (.cellA (ys := [.pv (.int .i64 v2.Lo), .pv (.int .i64 v2.Hi)]) ty53 rfl rfl (by kernel_rfl) (by kernel_rfl) (.cellA (ys := [.pv (.bool false), .pv (.bool false)]) ty120 rfl rfl (by kernel_rfl) (by kernel_rfl) .nil)) ?_))
            refine w_none 0 .z ?_
            refine w_none 1 (.s .z) ?_
            refine w_none 2 (.s (.s .z)) ?_
            refine w_none 3 (.s (.s (.s .z))) ?_
            refine w_cut 0 rfl rfl rfl rfl ?_
            exact wkE (by kernel_rfl) (by kernel_rfl)
          · have h := iteF h k6
            refine seq_ ?_
            refine jn_ (fun (j3 : Bool) => (⟨95, 0, [(2, [.c (.box 0 0)]), (3, [.c (.box 1 0)]), (4, [.c (.box 2 0)]), (5, [.c (.box 3 0)]), (45, [.c (.pv (.bool j3))])], [some (.box true 25 [.pv (.int .i64 a0.Kind), .pv (.int .i64 a0.Num), .pv (.int .i64 a0.Var), .pv (.sl (List.map e_check_Expr a0.Kids))]), some (.box true 46 (bs (e_num_Num a1))), some (.box true 53 [.pv (.int .i64 0), .pv (.int .i64 0)]), some (.box true 120 [.pv (.bool false), .pv (.bool false)])]⟩ : Sx)) h wT (fun o h => ?_) (fun j3 h => ?_)
            · refine region_ ?_
              refine R tbok 4 [49, 2, 3, 4, 5] [(49, [.c (.pv (.bool (a0.Kind == 3)))]), (2, [.c (.box 0 0)]), (3, [.c (.box 1 0)]), (4, [.c (.box 2 0)]), (5, [.c (.box 3 0)])] (by kernel_rfl) ?_
              refine (tf (a0.Kind == 3)).elim (fun k8 => ?_) (fun k8 => ?_)
              · have h := iteT h k8
                refine Lg rfl rfl rfl k8 rfl (lt_fa_box rfl f25_3 ty23 (by decide) rfl) rfl ?_
                refine Lg rfl rfl rfl k8 rfl (lt_load_box rfl ty23 rfl rfl rfl) rfl ?_
                refine Lg rfl rfl rfl k8 rfl (len_sl (e := e_check_Expr) rfl u23 rfl) rfl ?_
                refine Lg rfl rfl rfl k8 rfl (lt_int rfl rfl rfl rfl) rfl ?_
                refine L rfl rfl (lt_pickT rfl rfl k8 rfl) rfl ?_
                refine R tbok 1 [45, 2, 3, 4, 5] [(45, [.c (.pv (.bool ((a0.Kids.length : Int) == 1)))]), (2, [.c (.box 0 0)]), (3, [.c (.box 1 0)]), (4, [.c (.box 2 0)]), (5, [.c (.box 3 0)])] (by kernel_rfl) ?_
                refine ops_nil ?_
                obtain rfl := retE h
                refine mN ?_
                refine w_sub (env' := [(2, [.c (.box 0 0)]), (3, [.c (.box 1 0)]), (4, [.c (.box 2 0)]), (5, [.c (.box 3 0)]), (45, [.c (.pv (.bool ((a0.Kids.length : Int) == 1)))])]) (sub_cons rfl (sub_cons rfl (sub_cons rfl (sub_cons rfl (sub_cons rfl sub_nil))))) ?_
                exact wkE (by kernel_rfl) (by kernel_rfl)
              · have h := iteF h k8
                refine Ls0 rfl rfl rfl k8 rfl rfl ?_
                refine Ls0 rfl rfl rfl k8 rfl rfl ?_
                refine Ls0 rfl rfl rfl k8 rfl rfl ?_
                refine Ls0 rfl rfl rfl k8 rfl rfl ?_
                refine L rfl rfl (lt_pickF rfl rfl k8 rfl) rfl ?_
                refine R tbok 1 [45, 2, 3, 4, 5] [(45, [.c (.pv (.bool false))]), (2, [.c (.box 0 0)]), (3, [.c (.box 1 0)]), (4, [.c (.box 2 0)]), (5, [.c (.box 3 0)])] (by kernel_rfl) ?_
                refine ops_nil ?_
                obtain rfl := retE h
                refine mN ?_
                refine w_sub (env' := [(2, [.c (.box 0 0)]), (3, [.c (.box 1 0)]), (4, [.c (.box 2 0)]), (5, [.c (.box 3 0)]), (45, [.c (.pv (.bool false))])]) (sub_cons rfl (sub_cons rfl (sub_cons rfl (sub_cons rfl (sub_cons rfl sub_nil))))) ?_
                exact wkE (by kernel_rfl) (by kernel_rfl)
            · refine then_ ?_
              refine cond_ (b := j3) rfl (fun k9 => ?_) (fun k9 => ?_)
              · have h := iteT h k9
                refine seq_ ?_
                refine drawn_ mixed ?_
                refine dl (t := 56) 0 [.c (.box 0 3)] rfl ?_
                refine dl (t := 57) 1 [.c (.pv (.sl (List.map e_check_Expr a0.Kids)))] rfl ?_
                obtain ⟨v3, k10, h⟩ := bindE h
                refine dl (t := 58) 2 [.c (.ep [.int .i64 v3.Kind, .int .i64 v3.Num, .int .i64 v3.Var, .sl (List.map e_check_Expr v3.Kids)])] rfl ?_
                refine dl (t := 59) 3 [.agg [.pv (.int .i64 v3.Kind), .pv (.int .i64 v3.Num), .pv (.int .i64 v3.Var), .pv (.sl (List.map e_check_Expr v3.Kids))]] rfl ?_
                refine dl (t := 60) 4 [.agg (bs (e_num_Num a1))] rfl ?_
                obtain ⟨v5, k12, h⟩ := bindE h
                refine dl (t := 61) 5 [.agg [.pv (.int .i64 v5.1.Lo), .pv (.int .i64 v5.1.Hi)], .agg [.pv (.bool v5.2.Overflow), .pv (.bool v5.2.DivZero)]] rfl ?_
                refine dl (t := 55) 6 [.agg [.pv (.int .i64 v5.1.Lo), .pv (.int .i64 v5.1.Hi)], .agg [.pv (.bool v5.2.Overflow), .pv (.bool v5.2.DivZero)]] rfl ?_
                refine dl (t := 62) 7 [.agg [.pv (.int .i64 v5.1.Lo), .pv (.int .i64 v5.1.Hi)]] rfl ?_
                refine dl (t := 63) 8 [.agg [.pv (.bool v5.2.Overflow), .pv (.bool v5.2.DivZero)]] rfl ?_
                refine db (t := 6) 9 4 [.c (.box 4 0)] ((.box true 53 [.pv (.int .i64 0), .pv (.int .i64 0)])) rfl rfl (Push.eq (.s (.s (.s (.s .z))))) ?_
                refine db (t := 7) 10 5 [.c (.box 5 0)] ((.box true 120 [.pv (.bool false), .pv (.bool false)])) rfl rfl (Push.eq (.s (.s (.s (.s (.s .z)))))) ?_
                refine d_store (wm [0, 1, 3, 7, 0, 31, 63, 127, 127, 0, 0, 1791, 4095]) 11 rfl (by kernel_rfl) (by kernel_rfl) (by kernel_rfl) (by kernel_rfl) (by kernel_rfl) (gi0 rfl) (owF (by kernel_rfl) (fo_b [5, 4] rfl rfl rfl (by kernel_rfl) (by kernel_rfl) (by kernel_rfl) (gi0 rfl) (bir_alloc rfl z120 rfl rfl) (by kernel_rfl) (by kernel_rfl)) (owF (by kernel_rfl) (fo_b [5, 4] rfl rfl rfl (by kernel_rfl) (by kernel_rfl) (by kernel_rfl) (gi0 rfl) (bir_alloc rfl z53 rfl rfl) (by kernel_rfl) (by kernel_rfl)) (oE tbok [5, 4] 3 (by kernel_rfl) (oL [5, 4] rfl (by kernel_rfl) (fl_call rfl Try.call62 rfl (by kernel_rfl) (by kernel_rfl) (ih_eval_Eval _ _ _ k12)) (oE tbok [5, 4] 2 (by kernel_rfl) (oL [5, 4] rfl (by kernel_rfl) (fl_lt (ia_slR (e := e_check_Expr) (y := v3) rfl u23 ty25 rfl rfl k10 (e_check_Expr_eq v3) rfl)) (oE tbok [5, 4] 2 (by kernel_rfl) trivial))))))) rfl rfl ty53 rfl rfl rfl rfl rfl rfl (putE 2 (.all rfl) rfl (by decide)) (SetAt.eq (.s (.s (.s (.s .z))))) ?_
                refine d_store (wm [0, 1, 3, 7, 0, 31, 63, 127, 127, 0, 0, 1791, 4095]) 12 rfl (by kernel_rfl) (by kernel_rfl) (by kernel_rfl) (by kernel_rfl) (by kernel_rfl) (gi0 rfl) (oN 3 (by kernel_rfl) (oE tbok [5, 4] 1 (by kernel_rfl) (oN 8 (by kernel_rfl) trivial))) rfl rfl ty120 rfl rfl rfl rfl rfl rfl (putE 2 (.all rfl) rfl (by decide)) (SetAt.eq (.s (.s (.s (.s (.s .z)))))) ?_
                refine d_endS (env2 := [(7, [.c (.box 5 0)]), (6, [.c (.box 4 0)]), (4, [.c (.box 2 0)]), (5, [.c (.box 3 0)])]) (wm [0, 1, 3, 7, 0, 31, 63, 127, 127, 0, 0, 1791, 4095]) (by kernel_rfl) (by kernel_rfl) (by kernel_rfl) (oN 13 (by kernel_rfl) trivial) (sub_cons rfl (sub_cons rfl (sub_cons rfl (sub_cons rfl sub_nil)))) wT ?_
                refine then_ ?_
                refine seq_ ?_
                refine region_ ?_
                refine R tbok 1 [65, 7, 4, 5] [(65, [.agg [.pv (.int .i64 v5.1.Lo), .pv (.int .i64 v5.1.Hi)]]), (7, [.c (.box 5 0)]), (4, [.c (.box 2 0)]), (5, [.c (.box 3 0)])] (by kernel_rfl) ?_
                obtain ⟨v6, k13, h⟩ := bindE h
                refine C rfl rfl (fl_call rfl Try.call82 rfl (by kernel_rfl) (by kernel_rfl) (itv_Neg_meets k13)) rfl ?_
                refine R tbok 3 [68, 67, 7, 4, 5] [(68, [.agg [.pv (.bool v6.2.Overflow), .pv (.bool v6.2.DivZero)]]), (67, [.agg [.pv (.int .i64 v6.1.Lo), .pv (.int .i64 v6.1.Hi)]]), (7, [.c (.box 5 0)]), (4, [.c (.box 2 0)]), (5, [.c (.box 3 0)])] (by kernel_rfl) ?_
                refine B rfl rfl (bir_alloc rfl z53 rfl rfl) rfl rfl (.s (.s (.s (.s (.s (.s .z)))))) ?_
                refine B rfl rfl (bir_alloc rfl z120 rfl rfl) rfl rfl (.s (.s (.s (.s (.s (.s (.s .z))))))) ?_
                refine S rfl rfl rfl ty53 (by decide) rfl rfl rfl rfl rfl (.all rfl) (.s (.s (.s (.s (.s (.s .z)))))) ?_
                refine S rfl rfl rfl ty120 (by decide) rfl rfl rfl rfl rfl (.all rfl) (.s (.s (.s (.s (.s (.s (.s .z))))))) ?_
                refine ops_nil ?_
                refine then_ ?_
                refine seq_ ?_
                refine drawn_ mixed ?_
                refine dl (t := 69) 0 [.agg [.pv (.int .i64 v6.1.Lo), .pv (.int .i64 v6.1.Hi)]] rfl ?_
                refine dl (t := 70) 1 [.agg [.pv (.bool v5.2.Overflow), .pv (.bool v5.2.DivZero)]] rfl ?_
                refine dl (t := 71) 2 [.agg [.pv (.bool v6.2.Overflow), .pv (.bool v6.2.DivZero)]] rfl ?_
                obtain ⟨v8, k15, h⟩ := bindE h
                refine dl (t := 72) 3 [.agg [.pv (.bool v8.Overflow), .pv (.bool v8.DivZero)]] rfl ?_
                refine d_store (wm [0, 0, 0, 6, 15, 31]) 4 rfl (by kernel_rfl) (by kernel_rfl) (by kernel_rfl) (by kernel_rfl) (by kernel_rfl) (gi0 rfl) (oL [] rfl (by kernel_rfl) (fl_call rfl Try.call83 rfl (by kernel_rfl) (by kernel_rfl) (eval_either_meets k15)) (oE tbok [] 3 (by kernel_rfl) trivial)) rfl rfl ty53 rfl rfl rfl rfl rfl rfl (putE 2 (.all rfl) rfl (by decide)) (SetAt.eq (.s (.s .z))) ?_
                refine d_store (wm [0, 0, 0, 6, 15, 31]) 5 rfl (by kernel_rfl) (by kernel_rfl) (by kernel_rfl) (by kernel_rfl) (by kernel_rfl) (gi0 rfl) (oN 5 (by kernel_rfl) trivial) rfl rfl ty120 rfl rfl rfl rfl rfl rfl (putE 2 (.all rfl) rfl (by decide)) (SetAt.eq (.s (.s (.s .z)))) ?_
                refine d_endS (env2 := [(4, [.c (.box 2 0)]), (5, [.c (.box 3 0)])]) (wm [0, 0, 0, 6, 15, 31]) (by kernel_rfl) (by kernel_rfl) (by kernel_rfl) (oN 6 (by kernel_rfl) trivial) (sub_cons rfl (sub_cons rfl sub_nil)) wT ?_
                refine then_ ?_
                refine ret_ ?_
                obtain rfl := retE h
                refine bR (mRR (rw_ (.cellA (ys := [.pv (.int .i64 v6.1.Lo), .pv (.int .i64 v6.1.Hi)]) ty53 rfl rfl (by kernel_rfl) (by kernel_rfl) (.cellA (ys := [.pv (.bool v8.Overflow), .pv (.bool v8.DivZero)]) ty120 rfl rfl (by kernel_rfl) (by kernel_rfl) .nil)) ?_))
                refine w_none 0 .z ?_
                refine w_none 1 (.s .z) ?_
                refine w_none 2 (.s (.s .z)) ?_
                refine w_none 3 (.s (.s (.s .z))) ?_
                refine w_none 4 (.s (.s (.s (.s .z)))) ?_
                refine w_none 5 (.s (.s (.s (.s (.s .z))))) ?_
                refine w_none 6 (.s (.s (.s (.s (.s (.s .z)))))) ?_
                refine w_none 7 (.s (.s (.s (.s (.s (.s (.s .z))))))) ?_
                refine w_cut 0 rfl rfl rfl rfl ?_
                exact wkE (by kernel_rfl) (by kernel_rfl)
              · have h := iteF h k9
                refine seq_ ?_
                refine jn_ (fun (j4 : Bool) => (⟨95, 0, [(2, [.c (.box 0 0)]), (3, [.c (.box 1 0)]), (4, [.c (.box 2 0)]), (5, [.c (.box 3 0)]), (73, [.c (.pv (.bool j4))])], [some (.box true 25 [.pv (.int .i64 a0.Kind), .pv (.int .i64 a0.Num), .pv (.int .i64 a0.Var), .pv (.sl (List.map e_check_Expr a0.Kids))]), some (.box true 46 (bs (e_num_Num a1))), some (.box true 53 [.pv (.int .i64 0), .pv (.int .i64 0)]), some (.box true 120 [.pv (.bool false), .pv (.bool false)])]⟩ : Sx)) h wT (fun o h => ?_) (fun j4 h => ?_)
                · refine region_ ?_
                  refine R tbok 4 [77, 2, 3, 4, 5] [(77, [.c (.pv (.bool (decide (a0.Kind ≥ 4))))]), (2, [.c (.box 0 0)]), (3, [.c (.box 1 0)]), (4, [.c (.box 2 0)]), (5, [.c (.box 3 0)])] (by kernel_rfl) ?_
                  refine (tf (decide (a0.Kind ≥ 4))).elim (fun k16 => ?_) (fun k16 => ?_)
                  · have h := iteT h k16
                    refine Lg rfl rfl rfl k16 rfl (lt_fa_box rfl f25_0 ty3 (by decide) rfl) rfl ?_
                    refine Lg rfl rfl rfl k16 rfl (lt_load_box rfl ty3 rfl rfl rfl) rfl ?_
                    refine Lg rfl rfl rfl k16 rfl (lt_int rfl rfl rfl rfl) rfl ?_
                    refine L rfl rfl (lt_pickT rfl rfl k16 rfl) rfl ?_
                    refine R tbok 1 [82, 2, 3, 4, 5] [(82, [.c (.pv (.bool (decide (a0.Kind ≤ 8))))]), (2, [.c (.box 0 0)]), (3, [.c (.box 1 0)]), (4, [.c (.box 2 0)]), (5, [.c (.box 3 0)])] (by kernel_rfl) ?_
                    refine (tf (decide (a0.Kind ≤ 8))).elim (fun k17 => ?_) (fun k17 => ?_)
                    · have h := iteT h k17
                      refine Lg rfl rfl rfl k17 rfl (lt_fa_box rfl f25_3 ty23 (by decide) rfl) rfl ?_
                      refine Lg rfl rfl rfl k17 rfl (lt_load_box rfl ty23 rfl rfl rfl) rfl ?_
                      refine Lg rfl rfl rfl k17 rfl (len_sl (e := e_check_Expr) rfl u23 rfl) rfl ?_
                      refine Lg rfl rfl rfl k17 rfl (lt_int rfl rfl rfl rfl) rfl ?_
                      refine L rfl rfl (lt_pickT rfl rfl k17 rfl) rfl ?_
                      refine R tbok 1 [73, 2, 3, 4, 5] [(73, [.c (.pv (.bool ((a0.Kids.length : Int) == 2)))]), (2, [.c (.box 0 0)]), (3, [.c (.box 1 0)]), (4, [.c (.box 2 0)]), (5, [.c (.box 3 0)])] (by kernel_rfl) ?_
                      refine ops_nil ?_
                      obtain rfl := retE h
                      refine mN ?_
                      refine w_sub (env' := [(2, [.c (.box 0 0)]), (3, [.c (.box 1 0)]), (4, [.c (.box 2 0)]), (5, [.c (.box 3 0)]), (73, [.c (.pv (.bool ((a0.Kids.length : Int) == 2)))])]) (sub_cons rfl (sub_cons rfl (sub_cons rfl (sub_cons rfl (sub_cons rfl sub_nil))))) ?_
                      exact wkE (by kernel_rfl) (by kernel_rfl)
                    · have h := iteF h k17
                      refine Ls0 rfl rfl rfl k17 rfl rfl ?_
                      refine Ls0 rfl rfl rfl k17 rfl rfl ?_
                      refine Ls0 rfl rfl rfl k17 rfl rfl ?_
                      refine Ls0 rfl rfl rfl k17 rfl rfl ?_
                      refine L rfl rfl (lt_pickF rfl rfl k17 rfl) rfl ?_
                      refine R tbok 1 [73, 2, 3, 4, 5] [(73, [.c (.pv (.bool false))]), (2, [.c (.box 0 0)]), (3, [.c (.box 1 0)]), (4, [.c (.box 2 0)]), (5, [.c (.box 3 0)])] (by kernel_rfl) ?_
                      refine ops_nil ?_
                      obtain rfl := retE h
                      refine mN ?_
                      refine w_sub (env' := [(2, [.c (.box 0 0)]), (3, [.c (.box 1 0)]), (4, [.c (.box 2 0)]), (5, [.c (.box 3 0)]), (73, [.c (.pv (.bool false))])]) (sub_cons rfl (sub_cons rfl (sub_cons rfl (sub_cons rfl (sub_cons rfl sub_nil))))) ?_
                      exact wkE (by kernel_rfl) (by kernel_rfl)
                  · have h := iteF h k16
                    refine Ls0 rfl rfl rfl k16 rfl rfl ?_
                    refine Ls0 rfl rfl rfl k16 rfl rfl ?_
                    refine Ls0 rfl rfl rfl k16 rfl rfl ?_
                    refine L rfl rfl (lt_pickF rfl rfl k16 rfl) rfl ?_
                    refine R tbok 1 [82, 2, 3, 4, 5] [(82, [.c (.pv (.bool false))]), (2, [.c (.box 0 0)]), (3, [.c (.box 1 0)]), (4, [.c (.box 2 0)]), (5, [.c (.box 3 0)])] (by kernel_rfl) ?_
                    refine Ls0 rfl rfl rfl rfl rfl rfl ?_
                    refine Ls0 rfl rfl rfl rfl rfl rfl ?_
                    refine Ls0 rfl rfl rfl rfl rfl rfl ?_
                    refine Ls0 rfl rfl rfl rfl rfl rfl ?_
                    refine L rfl rfl (lt_pickF rfl rfl rfl rfl) rfl ?_
                    refine R tbok 1 [73, 2, 3, 4, 5] [(73, [.c (.pv (.bool false))]), (2, [.c (.box 0 0)]), (3, [.c (.box 1 0)]), (4, [.c (.box 2 0)]), (5, [.c (.box 3 0)])] (by kernel_rfl) ?_
                    refine ops_nil ?_
                    obtain rfl := retE h
                    refine mN ?_
                    refine w_sub (env' := [(2, [.c (.box 0 0)]), (3, [.c (.box 1 0)]), (4, [.c (.box 2 0)]), (5, [.c (.box 3 0)]), (73, [.c (.pv (.bool false))])]) (sub_cons rfl (sub_cons rfl (sub_cons rfl (sub_cons rfl (sub_cons rfl sub_nil))))) ?_
                    exact wkE (by kernel_rfl) (by kernel_rfl)
                · refine then_ ?_
                  refine cond_ (b := j4) rfl (fun k18 => ?_) (fun k18 => ?_)
                  · have h := iteT h k18
                    refine seq_ ?_
                    refine region_ ?_
                    refine R tbok 2 [89, 88, 4, 5] [(89, [.agg (bs (e_num_Num a1))]), (88, [.agg [.pv (.int .i64 a0.Kind), .pv (.int .i64 a0.Num), .pv (.int .i64 a0.Var), .pv (.sl (List.map e_check_Expr a0.Kids))]]), (4, [.c (.box 2 0)]), (5, [.c (.box 3 0)])] (by kernel_rfl) ?_
                    obtain ⟨v9, k19, h⟩ := bindE h
                    refine C rfl rfl (fl_call rfl Try.call84 rfl (by kernel_rfl) (by kernel_rfl) (ih_eval_two _ _ _ k19)) rfl ?_
                    refine R tbok 2 [92, 91, 4, 5] [(92, [.agg [.pv (.bool v9.2.Overflow), .pv (.bool v9.2.DivZero)]]), (91, [.agg [.pv (.int .i64 v9.1.Lo), .pv (.int .i64 v9.1.Hi)]]), (4, [.c (.box 2 0)]), (5, [.c (.box 3 0)])] (by kernel_rfl) ?_
                    refine S rfl rfl rfl ty53 (by decide) rfl rfl rfl rfl rfl (.all rfl) (.s (.s .z)) ?_
                    refine S rfl rfl rfl ty120 (by decide) rfl rfl rfl rfl rfl (.all rfl) (.s (.s (.s .z))) ?_
                    refine ops_nil ?_
                    refine then_ ?_
                    refine ret_ ?_
                    obtain rfl := retE h
                    refine bR (mRR (rw_ (.cellA (ys := [.pv (.int .i64 v9.1.Lo), .pv (.int .i64 v9.1.Hi)]) ty53 rfl rfl (by kernel_rfl) (by kernel_rfl) (.cellA (ys := [.pv (.bool v9.2.Overflow), .pv (.bool v9.2.DivZero)]) ty120 rfl rfl (by kernel_rfl) (by kernel_rfl) .nil)) ?_))
                    refine w_none 0 .z ?_
                    refine w_none 1 (.s .z) ?_
                    refine w_none 2 (.s (.s .z)) ?_
                    refine w_none 3 (.s (.s (.s .z))) ?_
                    refine w_cut 0 rfl rfl rfl rfl ?_
                    exact wkE (by kernel_rfl) (by kernel_rfl)
                  · have h := iteF h k18
                    refine skip_ ?_
                    refine bN ?_
                    obtain rfl := retE h
                    refine mRN ?_
                    refine w_sub (env' := [(4, [.c (.box 2 0)]), (5, [.c (.box 3 0)])]) (sub_cons rfl (sub_cons rfl sub_nil)) ?_
                    refine w_none 0 .z ?_
                    refine w_none 1 (.s .z) ?_
                    exact wkE (by kernel_rfl) (by kernel_rfl)
  · have h := elimL h
    obtain rfl := retE h
    exact (tR (rwr hs))
  · have h := elimR h
    refine then_ ?_
    refine seq_ ?_
    refine region_ ?_
    obtain ⟨v10, k20, h⟩ := bindE h
    refine C rfl rfl (fl_call rfl Try.call22 rfl (by kernel_rfl) (by kernel_rfl) (itv_None_meets k20)) rfl ?_
    refine L rfl rfl (lt_build (cs := [.pv (.bool false), .pv (.bool false)]) rfl st120 rfl (by kernel_rfl)) rfl ?_
    refine S rfl rfl rfl ty53 (by decide) rfl rfl rfl rfl rfl (.all rfl) (.s (.s .z)) ?_
    refine S rfl rfl rfl ty120 (by decide) rfl rfl rfl rfl rfl (.all rfl) (.s (.s (.s .z))) ?_
    refine ops_nil ?_
    refine then_ ?_
    refine ret_ ?_
    obtain rfl := retE h
    refine rwr (rw_ (.cellA (ys := [.pv (.int .i64 v10.Lo), .pv (.int .i64 v10.Hi)]) ty53 rfl rfl (by kernel_rfl) (by kernel_rfl) (.cellA (ys := [.pv (.bool false), .pv (.bool false)]) ty120 rfl rfl (by kernel_rfl) (by kernel_rfl) .nil)) ?_)
    refine w_none 2 (.s (.s .z)) ?_
    refine w_none 3 (.s (.s (.s .z))) ?_
    refine w_cut 0 rfl rfl rfl rfl ?_
    exact wkE (by kernel_rfl) (by kernel_rfl)

theorem eval_two_step {n : Nat} (ih_eval_Eval : ∀ (a0 : check_Expr) (a1 : num_Num) (r : (itv_Itv × itv_Errs)), eval_EvalN n a0 a1 = some r → MeetsV Try.prog GG 62 [.agg [.pv (.int .i64 a0.Kind), .pv (.int .i64 a0.Num), .pv (.int .i64 a0.Var), .pv (.sl (List.map e_check_Expr a0.Kids))], .agg (bs (e_num_Num a1))] [.agg [.pv (.int .i64 r.1.Lo), .pv (.int .i64 r.1.Hi)], .agg [.pv (.bool r.2.Overflow), .pv (.bool r.2.DivZero)]]) (ih_eval_two : ∀ (a0 : check_Expr) (a1 : num_Num) (r : (itv_Itv × itv_Errs)), eval_twoN n a0 a1 = some r → MeetsV Try.prog GG 84 [.agg [.pv (.int .i64 a0.Kind), .pv (.int .i64 a0.Num), .pv (.int .i64 a0.Var), .pv (.sl (List.map e_check_Expr a0.Kids))], .agg (bs (e_num_Num a1))] [.agg [.pv (.int .i64 r.1.Lo), .pv (.int .i64 r.1.Hi)], .agg [.pv (.bool r.2.Overflow), .pv (.bool r.2.DivZero)]]) (a0 : check_Expr) (a1 : num_Num) (r : (itv_Itv × itv_Errs)) (h : eval_twoN (n + 1) a0 a1 = some r) : MeetsV Try.prog GG 84 [.agg [.pv (.int .i64 a0.Kind), .pv (.int .i64 a0.Num), .pv (.int .i64 a0.Var), .pv (.sl (List.map e_check_Expr a0.Kids))], .agg (bs (e_num_Num a1))] [.agg [.pv (.int .i64 r.1.Lo), .pv (.int .i64 r.1.Hi)], .agg [.pv (.bool r.2.Overflow), .pv (.bool r.2.DivZero)]] := by
  refine MeetsS.toV (meetsW_of (st0 := []) (N := 48) r_eval_two o_eval_two r Try.func84 rfl rfl rfl (by dsimp only [argEnv]) rfl ?_) rfl
  rw [eval_twoN] at h
  refine seq_ ?_
  refine region_ ?_
  refine B rfl rfl (bir_box rfl rfl rfl) rfl rfl .z ?_
  refine B rfl rfl (bir_box rfl rfl rfl) rfl rfl (.s .z) ?_
  refine B rfl rfl (bir_alloc rfl z53 rfl rfl) rfl rfl (.s (.s .z)) ?_
  refine B rfl rfl (bir_alloc rfl z120 rfl rfl) rfl rfl (.s (.s (.s .z))) ?_
  refine ops_nil ?_
  refine then_ ?_
  refine seq_ ?_
  refine drawn_ mixed ?_
  refine dl (t := 12) 0 [.c (.box 0 3)] rfl ?_
  refine dl (t := 13) 1 [.c (.pv (.sl (List.map e_check_Expr a0.Kids)))] rfl ?_
  obtain ⟨v1, k1, h⟩ := bindE h
  refine dl (t := 14) 2 [.c (.ep [.int .i64 v1.Kind, .int .i64 v1.Num, .int .i64 v1.Var, .sl (List.map e_check_Expr v1.Kids)])] rfl ?_
  refine dl (t := 15) 3 [.agg [.pv (.int .i64 v1.Kind), .pv (.int .i64 v1.Num), .pv (.int .i64 v1.Var), .pv (.sl (List.map e_check_Expr v1.Kids))]] rfl ?_
  refine dl (t := 16) 4 [.agg (bs (e_num_Num a1))] rfl ?_
  obtain ⟨v3, k3, h⟩ := bindE h
  refine dl (t := 17) 5 [.agg [.pv (.int .i64 v3.1.Lo), .pv (.int .i64 v3.1.Hi)], .agg [.pv (.bool v3.2.Overflow), .pv (.bool v3.2.DivZero)]] rfl ?_
  refine dl (t := 11) 6 [.agg [.pv (.int .i64 v3.1.Lo), .pv (.int .i64 v3.1.Hi)], .agg [.pv (.bool v3.2.Overflow), .pv (.bool v3.2.DivZero)]] rfl ?_
  refine dl (t := 18) 7 [.agg [.pv (.int .i64 v3.1.Lo), .pv (.int .i64 v3.1.Hi)]] rfl ?_
  refine dl (t := 19) 8 [.agg [.pv (.bool v3.2.Overflow), .pv (.bool v3.2.DivZero)]] rfl ?_
  refine db (t := 6) 9 4 [.c (.box 4 0)] ((.box true 53 [.pv (.int .i64 0), .pv (.int .i64 0)])) rfl rfl (Push.eq (.s (.s (.s (.s .z))))) ?_
  refine db (t := 7) 10 5 [.c (.box 5 0)] ((.box true 120 [.pv (.bool false), .pv (.bool false)])) rfl rfl (Push.eq (.s (.s (.s (.s (.s .z)))))) ?_
  refine d_store (wm [0, 1, 3, 7, 0, 31, 63, 127, 127, 0, 0, 1791, 4095]) 11 rfl (by kernel_rfl) (by kernel_rfl) (by kernel_rfl) (by kernel_rfl) (by kernel_rfl) (gi0 rfl) (owF (by kernel_rfl) (fo_b [5, 4] rfl rfl rfl (by kernel_rfl) (by kernel_rfl) (by kernel_rfl) (gi0 rfl) (bir_alloc rfl z120 rfl rfl) (by kernel_rfl) (by kernel_rfl)) (owF (by kernel_rfl) (fo_b [5, 4] rfl rfl rfl (by kernel_rfl) (by kernel_rfl) (by kernel_rfl) (gi0 rfl) (bir_alloc rfl z53 rfl rfl) (by kernel_rfl) (by kernel_rfl)) (oE tbok [5, 4] 3 (by kernel_rfl) (oL [5, 4] rfl (by kernel_rfl) (fl_call rfl Try.call62 rfl (by kernel_rfl) (by kernel_rfl) (ih_eval_Eval _ _ _ k3)) (oE tbok [5, 4] 2 (by kernel_rfl) (oL [5, 4] rfl (by kernel_rfl) (fl_lt (ia_slR (e := e_check_Expr) (y := v1) rfl u23 ty25 rfl rfl k1 (e_check_Expr_eq v1) rfl)) (oE tbok [5, 4] 2 (by kernel_rfl) trivial))))))) rfl rfl ty53 rfl rfl rfl rfl rfl rfl (putE 2 (.all rfl) rfl (by decide)) (SetAt.eq (.s (.s (.s (.s .z))))) ?_
  refine d_store (wm [0, 1, 3, 7, 0, 31, 63, 127, 127, 0, 0, 1791, 4095]) 12 rfl (by kernel_rfl) (by kernel_rfl) (by kernel_rfl) (by kernel_rfl) (by kernel_rfl) (gi0 rfl) (oN 3 (by kernel_rfl) (oE tbok [5, 4] 1 (by kernel_rfl) (oN 8 (by kernel_rfl) trivial))) rfl rfl ty120 rfl rfl rfl rfl rfl rfl (putE 2 (.all rfl) rfl (by decide)) (SetAt.eq (.s (.s (.s (.s (.s .z)))))) ?_
  refine d_endS (env2 := [(7, [.c (.box 5 0)]), (6, [.c (.box 4 0)]), (5, [.c (.box 3 0)]), (4, [.c (.box 2 0)]), (3, [.c (.box 1 0)]), (2, [.c (.box 0 0)])]) (wm [0, 1, 3, 7, 0, 31, 63, 127, 127, 0, 0, 1791, 4095]) (by kernel_rfl) (by kernel_rfl) (by kernel_rfl) (oN 13 (by kernel_rfl) trivial) (sub_cons rfl (sub_cons rfl (sub_cons rfl (sub_cons rfl (sub_cons rfl (sub_cons rfl sub_nil)))))) wT ?_
  refine then_ ?_
  refine seq_ ?_
  refine seq_ ?_
  refine region_ ?_
  refine R tbok 1 [20, 7, 6, 5, 4, 3, 2] [(20, [.agg [.pv (.int .i64 v3.1.Lo), .pv (.int .i64 v3.1.Hi)]]), (7, [.c (.box 5 0)]), (6, [.c (.box 4 0)]), (5, [.c (.box 3 0)]), (4, [.c (.box 2 0)]), (3, [.c (.box 1 0)]), (2, [.c (.box 0 0)])] (by kernel_rfl) ?_
  obtain ⟨v4, k4, h⟩ := bindE h
  refine C rfl rfl (fl_call rfl Try.call31 rfl (by kernel_rfl) (by kernel_rfl) (itv_Empty_meets k4)) rfl ?_
  refine ops_nil ?_
  refine then_ ?_
  refine cond_ (b := v4) rfl (fun k5 => ?_) (fun k5 => ?_)
  · have h := iteT h k5
    refine seq_ ?_
    refine drawn_ mixed ?_
    refine dl (t := 22) 0 [.agg [.pv (.int .i64 v3.1.Lo), .pv (.int .i64 v3.1.Hi)]] rfl ?_
    refine dl (t := 23) 1 [.agg [.pv (.bool v3.2.Overflow), .pv (.bool v3.2.DivZero)]] rfl ?_
    refine d_store (wm [0, 0, 1, 7]) 2 rfl (by kernel_rfl) (by kernel_rfl) (by kernel_rfl) (by kernel_rfl) (by kernel_rfl) (gi0 rfl) (oE tbok [] 2 (by kernel_rfl) trivial) rfl rfl ty53 rfl rfl rfl rfl rfl rfl (putE 2 (.all rfl) rfl (by decide)) (SetAt.eq (.s (.s .z))) ?_
    refine d_store (wm [0, 0, 1, 7]) 3 rfl (by kernel_rfl) (by kernel_rfl) (by kernel_rfl) (by kernel_rfl) (by kernel_rfl) (gi0 rfl) (oN 1 (by kernel_rfl) (oE tbok [] 1 (by kernel_rfl) (oN 1 (by kernel_rfl) trivial))) rfl rfl ty120 rfl rfl rfl rfl rfl rfl (putE 2 (.all rfl) rfl (by decide)) (SetAt.eq (.s (.s (.s .z)))) ?_
    refine d_endS (env2 := [(7, [.c (.box 5 0)]), (6, [.c (.box 4 0)]), (5, [.c (.box 3 0)]), (4, [.c (.box 2 0)]), (3, [.c (.box 1 0)]), (2, [.c (.box 0 0)])]) (wm [0, 0, 1, 7]) (by kernel_rfl) (by kernel_rfl) (by kernel_rfl) (oN 4 (by kernel_rfl) trivial) (sub_cons rfl (sub_cons rfl (sub_cons rfl (sub_cons rfl (sub_cons rfl (sub_cons rfl sub_nil)))))) wT ?_
    refine then_ ?_
    refine ret_ ?_
    obtain rfl := retE h
    refine tR (rwr (rw_ (.cellA (ys := [.pv (.int .i64 v3.1.Lo), .pv (.int .i64 v3.1.Hi)]) ty53 rfl rfl (by kernel_rfl) (by kernel_rfl) (.cellA (ys := [.pv (.bool v3.2.Overflow), .pv (.bool v3.2.DivZero)]) ty120 rfl rfl (by kernel_rfl) (by kernel_rfl) .nil)) ?_))
    refine w_none 0 .z ?_
    refine w_none 1 (.s .z) ?_
    refine w_none 2 (.s (.s .z)) ?_
    refine w_none 3 (.s (.s (.s .z))) ?_
    refine w_none 4 (.s (.s (.s (.s .z)))) ?_
    refine w_none 5 (.s (.s (.s (.s (.s .z))))) ?_
    refine w_cut 0 rfl rfl rfl rfl ?_
    exact wkE (by kernel_rfl) (by kernel_rfl)
  · have h := iteF h k5
    refine skip_ ?_
    refine then_ ?_
    refine seq_ ?_
    refine drawn_ mixed ?_
    refine dl (t := 25) 0 [.c (.box 0 3)] rfl ?_
    refine dl (t := 26) 1 [.c (.pv (.sl (List.map e_check_Expr a0.Kids)))] rfl ?_
    obtain ⟨v5, k6, h⟩ := bindE h
    refine dl (t := 27) 2 [.c (.ep [.int .i64 v5.Kind, .int .i64 v5.Num, .int .i64 v5.Var, .sl (List.map e_check_Expr v5.Kids)])] rfl ?_
    refine dl (t := 28) 3 [.agg [.pv (.int .i64 v5.Kind), .pv (.int .i64 v5.Num), .pv (.int .i64 v5.Var), .pv (.sl (List.map e_check_Expr v5.Kids))]] rfl ?_
    refine dl (t := 29) 4 [.agg (bs (e_num_Num a1))] rfl ?_
    obtain ⟨v7, k8, h⟩ := bindE h
    refine dl (t := 30) 5 [.agg [.pv (.int .i64 v7.1.Lo), .pv (.int .i64 v7.1.Hi)], .agg [.pv (.bool v7.2.Overflow), .pv (.bool v7.2.DivZero)]] rfl ?_
    refine dl (t := 24) 6 [.agg [.pv (.int .i64 v7.1.Lo), .pv (.int .i64 v7.1.Hi)], .agg [.pv (.bool v7.2.Overflow), .pv (.bool v7.2.DivZero)]] rfl ?_
    refine dl (t := 31) 7 [.agg [.pv (.int .i64 v7.1.Lo), .pv (.int .i64 v7.1.Hi)]] rfl ?_
    refine dl (t := 32) 8 [.agg [.pv (.bool v7.2.Overflow), .pv (.bool v7.2.DivZero)]] rfl ?_
    refine db (t := 8) 9 6 [.c (.box 6 0)] ((.box true 53 [.pv (.int .i64 0), .pv (.int .i64 0)])) rfl rfl (Push.eq (.s (.s (.s (.s (.s (.s .z))))))) ?_
    refine db (t := 9) 10 7 [.c (.box 7 0)] ((.box true 120 [.pv (.bool false), .pv (.bool false)])) rfl rfl (Push.eq (.s (.s (.s (.s (.s (.s (.s .z)))))))) ?_
    refine d_store (wm [0, 1, 3, 7, 0, 31, 63, 127, 127, 0, 0, 1791, 4095]) 11 rfl (by kernel_rfl) (by kernel_rfl) (by kernel_rfl) (by kernel_rfl) (by kernel_rfl) (gi0 rfl) (owF (by kernel_rfl) (fo_b [7, 6] rfl rfl rfl (by kernel_rfl) (by kernel_rfl) (by kernel_rfl) (gi0 rfl) (bir_alloc rfl z120 rfl rfl) (by kernel_rfl) (by kernel_rfl)) (owF (by kernel_rfl) (fo_b [7, 6] rfl rfl rfl (by kernel_rfl) (by kernel_rfl) (by kernel_rfl) (gi0 rfl) (bir_alloc rfl z53 rfl rfl) (by kernel_rfl) (by kernel_rfl)) (oE tbok [7, 6] 3 (by kernel_rfl) (oL [7, 6] rfl (by kernel_rfl) (fl_call rfl Try.call62 rfl (by kernel_rfl) (by kernel_rfl) (ih_eval_Eval _ _ _ k8)) (oE tbok [7, 6] 2 (by kernel_rfl) (oL [7, 6] rfl (by kernel_rfl) (fl_lt (ia_slR (e := e_check_Expr) (y := v5) rfl u23 ty25 rfl rfl k6 (e_check_Expr_eq v5) rfl)) (oE tbok [7, 6] 2 (by kernel_rfl) trivial))))))) rfl rfl ty53 rfl rfl rfl rfl rfl rfl (putE 2 (.all rfl) rfl (by decide)) (SetAt.eq (.s (.s (.s (.s (.s (.s .z))))))) ?_
    refine d_store (wm [0, 1, 3, 7, 0, 31, 63, 127, 127, 0, 0, 1791, 4095]) 12 rfl (by kernel_rfl) (by kernel_rfl) (by kernel_rfl) (by kernel_rfl) (by kernel_rfl) (gi0 rfl) (oN 3 (by kernel_rfl) (oE tbok [7, 6] 1 (by kernel_rfl) (oN 8 (by kernel_rfl) trivial))) rfl rfl ty120 rfl rfl rfl rfl rfl rfl (putE 2 (.all rfl) rfl (by decide)) (SetAt.eq (.s (.s (.s (.s (.s (.s (.s .z)))))))) ?_
    refine d_endS (env2 := [(9, [.c (.box 7 0)]), (8, [.c (.box 6 0)]), (7, [.c (.box 5 0)]), (6, [.c (.box 4 0)]), (5, [.c (.box 3 0)]), (4, [.c (.box 2 0)]), (2, [.c (.box 0 0)])]) (wm [0, 1, 3, 7, 0, 31, 63, 127, 127, 0, 0, 1791, 4095]) (by kernel_rfl) (by kernel_rfl) (by kernel_rfl) (oN 13 (by kernel_rfl) trivial) (sub_cons rfl (sub_cons rfl (sub_cons rfl (sub_cons rfl (sub_cons rfl (sub_cons rfl (sub_cons rfl sub_nil))))))) wT ?_
    refine then_ ?_
    refine seq_ ?_
    refine region_ ?_
    refine R tbok 2 [34, 33, 9, 8, 7, 6, 5, 4, 2] [(34, [.agg [.pv (.bool v7.2.Overflow), .pv (.bool v7.2.DivZero)]]), (33, [.agg [.pv (.bool v3.2.Overflow), .pv (.bool v3.2.DivZero)]]), (9, [.c (.box 7 0)]), (8, [.c (.box 6 0)]), (7, [.c (.box 5 0)]), (6, [.c (.box 4 0)]), (5, [.c (.box 3 0)]), (4, [.c (.box 2 0)]), (2, [.c (.box 0 0)])] (by kernel_rfl) ?_
    obtain ⟨v8, k9, h⟩ := bindE h
    refine C rfl rfl (fl_call rfl Try.call83 rfl (by kernel_rfl) (by kernel_rfl) (eval_either_meets k9)) rfl ?_
    refine S rfl rfl rfl ty120 (by decide) rfl rfl rfl rfl rfl (.all rfl) (.s (.s (.s (.s (.s .z))))) ?_
    refine ops_nil ?_
    refine then_ ?_
    refine seq_ ?_
    refine region_ ?_
    refine R tbok 4 [40, 39, 38, 9, 7, 5, 4] [(40, [.agg [.pv (.int .i64 v7.1.Lo), .pv (.int .i64 v7.1.Hi)]]), (39, [.agg [.pv (.int .i64 v3.1.Lo), .pv (.int .i64 v3.1.Hi)]]), (38, [.c (.pv (.int .i64 a0.Kind))]), (9, [.c (.box 7 0)]), (7, [.c (.box 5 0)]), (5, [.c (.box 3 0)]), (4, [.c (.box 2 0)])] (by kernel_rfl) ?_
    obtain ⟨v9, k10, h⟩ := bindE h
    refine C rfl rfl (fl_call rfl Try.call95 rfl (by kernel_rfl) (by kernel_rfl) (itv_Do_meets k10)) rfl ?_
    refine R tbok 3 [43, 42, 9, 7, 5, 4] [(43, [.agg [.pv (.bool v9.2.Overflow), .pv (.bool v9.2.DivZero)]]), (42, [.agg [.pv (.int .i64 v9.1.Lo), .pv (.int .i64 v9.1.Hi)]]), (9, [.c (.box 7 0)]), (7, [.c (.box 5 0)]), (5, [.c (.box 3 0)]), (4, [.c (.box 2 0)])] (by kernel_rfl) ?_
    refine B rfl rfl (bir_alloc rfl z53 rfl rfl) rfl rfl (.s (.s (.s (.s (.s (.s (.s (.s .z)))))))) ?_
    refine S rfl rfl rfl ty53 (by decide) rfl rfl rfl rfl rfl (.all rfl) (.s (.s (.s (.s (.s (.s (.s (.s .z)))))))) ?_
    refine S rfl rfl rfl ty120 (by decide) rfl rfl rfl rfl rfl (.all rfl) (.s (.s (.s (.s (.s (.s (.s .z))))))) ?_
    refine ops_nil ?_
    refine then_ ?_
    refine seq_ ?_
    refine drawn_ mixed ?_
    refine dl (t := 44) 0 [.agg [.pv (.int .i64 v9.1.Lo), .pv (.int .i64 v9.1.Hi)]] rfl ?_
    refine dl (t := 45) 1 [.agg [.pv (.bool v8.Overflow), .pv (.bool v8.DivZero)]] rfl ?_
    refine dl (t := 46) 2 [.agg [.pv (.bool v9.2.Overflow), .pv (.bool v9.2.DivZero)]] rfl ?_
    obtain ⟨v11, k12, h⟩ := bindE h
    refine dl (t := 47) 3 [.agg [.pv (.bool v11.Overflow), .pv (.bool v11.DivZero)]] rfl ?_
    refine d_store (wm [0, 0, 0, 6, 15, 31]) 4 rfl (by kernel_rfl) (by kernel_rfl) (by kernel_rfl) (by kernel_rfl) (by kernel_rfl) (gi0 rfl) (oL [] rfl (by kernel_rfl) (fl_call rfl Try.call83 rfl (by kernel_rfl) (by kernel_rfl) (eval_either_meets k12)) (oE tbok [] 3 (by kernel_rfl) trivial)) rfl rfl ty53 rfl rfl rfl rfl rfl rfl (putE 2 (.all rfl) rfl (by decide)) (SetAt.eq (.s (.s .z))) ?_
    refine d_store (wm [0, 0, 0, 6, 15, 31]) 5 rfl (by kernel_rfl) (by kernel_rfl) (by kernel_rfl) (by kernel_rfl) (by kernel_rfl) (gi0 rfl) (oN 5 (by kernel_rfl) trivial) rfl rfl ty120 rfl rfl rfl rfl rfl rfl (putE 2 (.all rfl) rfl (by decide)) (SetAt.eq (.s (.s (.s .z)))) ?_
    refine d_endS (env2 := [(5, [.c (.box 3 0)]), (4, [.c (.box 2 0)])]) (wm [0, 0, 0, 6, 15, 31]) (by kernel_rfl) (by kernel_rfl) (by kernel_rfl) (oN 6 (by kernel_rfl) trivial) (sub_cons rfl (sub_cons rfl sub_nil)) wT ?_
    refine then_ ?_
    refine ret_ ?_
    obtain rfl := retE h
    refine rwr (rw_ (.cellA (ys := [.pv (.int .i64 v9.1.Lo), .pv (.int .i64 v9.1.Hi)]) ty53 rfl rfl (by kernel_rfl) (by kernel_rfl) (.cellA (ys := [.pv (.bool v11.Overflow), .pv (.bool v11.DivZero)]) ty120 rfl rfl (by kernel_rfl) (by kernel_rfl) .nil)) ?_)
    refine w_none 0 .z ?_
    refine w_none 1 (.s .z) ?_
    refine w_none 2 (.s (.s .z)) ?_
    refine w_none 3 (.s (.s (.s .z))) ?_
    refine w_none 4 (.s (.s (.s (.s .z)))) ?_
    refine w_none 5 (.s (.s (.s (.s (.s .z))))) ?_
    refine w_none 6 (.s (.s (.s (.s (.s (.s .z)))))) ?_
    refine w_none 7 (.s (.s (.s (.s (.s (.s (.s .z))))))) ?_
    refine w_none 8 (.s (.s (.s (.s (.s (.s (.s (.s .z)))))))) ?_
    refine w_cut 0 rfl rfl rfl rfl ?_
    exact wkE (by kernel_rfl) (by kernel_rfl)

theorem eval_Eval_eval_two_all : ∀ n : Nat, (∀ (a0 : check_Expr) (a1 : num_Num) (r : (itv_Itv × itv_Errs)), eval_EvalN n a0 a1 = some r → MeetsV Try.prog GG 62 [.agg [.pv (.int .i64 a0.Kind), .pv (.int .i64 a0.Num), .pv (.int .i64 a0.Var), .pv (.sl (List.map e_check_Expr a0.Kids))], .agg (bs (e_num_Num a1))] [.agg [.pv (.int .i64 r.1.Lo), .pv (.int .i64 r.1.Hi)], .agg [.pv (.bool r.2.Overflow), .pv (.bool r.2.DivZero)]]) ∧ (∀ (a0 : check_Expr) (a1 : num_Num) (r : (itv_Itv × itv_Errs)), eval_twoN n a0 a1 = some r → MeetsV Try.prog GG 84 [.agg [.pv (.int .i64 a0.Kind), .pv (.int .i64 a0.Num), .pv (.int .i64 a0.Var), .pv (.sl (List.map e_check_Expr a0.Kids))], .agg (bs (e_num_Num a1))] [.agg [.pv (.int .i64 r.1.Lo), .pv (.int .i64 r.1.Hi)], .agg [.pv (.bool r.2.Overflow), .pv (.bool r.2.DivZero)]])
  | 0 => ⟨(fun _ _ _ h => by rw [eval_EvalN] at h; cases h), (fun _ _ _ h => by rw [eval_twoN] at h; cases h)⟩
  | n + 1 => by
    have ih := eval_Eval_eval_two_all n
    exact ⟨eval_Eval_step ih.1 ih.2, eval_two_step ih.1 ih.2⟩

theorem eval_Eval_meets {a0 : check_Expr} {a1 : num_Num} {r : (itv_Itv × itv_Errs)} (h : eval_Eval a0 a1 = some r) : MeetsV Try.prog GG 62 [.agg [.pv (.int .i64 a0.Kind), .pv (.int .i64 a0.Num), .pv (.int .i64 a0.Var), .pv (.sl (List.map e_check_Expr a0.Kids))], .agg (bs (e_num_Num a1))] [.agg [.pv (.int .i64 r.1.Lo), .pv (.int .i64 r.1.Hi)], .agg [.pv (.bool r.2.Overflow), .pv (.bool r.2.DivZero)]] := by
  obtain ⟨n, hn⟩ := unfE h
  exact (eval_Eval_eval_two_all n).1 _ _ _ hn

theorem eval_two_meets {a0 : check_Expr} {a1 : num_Num} {r : (itv_Itv × itv_Errs)} (h : eval_two a0 a1 = some r) : MeetsV Try.prog GG 84 [.agg [.pv (.int .i64 a0.Kind), .pv (.int .i64 a0.Num), .pv (.int .i64 a0.Var), .pv (.sl (List.map e_check_Expr a0.Kids))], .agg (bs (e_num_Num a1))] [.agg [.pv (.int .i64 r.1.Lo), .pv (.int .i64 r.1.Hi)], .agg [.pv (.bool r.2.Overflow), .pv (.bool r.2.DivZero)]] := by
  obtain ⟨n, hn⟩ := unfE h
  exact (eval_Eval_eval_two_all n).2 _ _ _ hn

theorem eval_linear_step {n : Nat} (ih_eval_linear : ∀ (a0 : check_Expr) (r : (eval_form × Bool)), eval_linearN n a0 = some r → MeetsV Try.prog GG 78 [.agg [.pv (.int .i64 a0.Kind), .pv (.int .i64 a0.Num), .pv (.int .i64 a0.Var), .pv (.sl (List.map e_check_Expr a0.Kids))]] [.agg [.pv (.int .i64 r.1.f_v), .pv (.int .i64 r.1.f_by)], .c (.pv (.bool r.2))]) (ih_eval_pair : ∀ (a0 : check_Expr) (r : (eval_form × Bool)), eval_pairN n a0 = some r → MeetsV Try.prog GG 92 [.agg [.pv (.int .i64 a0.Kind), .pv (.int .i64 a0.Num), .pv (.int .i64 a0.Var), .pv (.sl (List.map e_check_Expr a0.Kids))]] [.agg [.pv (.int .i64 r.1.f_v), .pv (.int .i64 r.1.f_by)], .c (.pv (.bool r.2))]) (a0 : check_Expr) (r : (eval_form × Bool)) (h : eval_linearN (n + 1) a0 = some r) : MeetsV Try.prog GG 78 [.agg [.pv (.int .i64 a0.Kind), .pv (.int .i64 a0.Num), .pv (.int .i64 a0.Var), .pv (.sl (List.map e_check_Expr a0.Kids))]] [.agg [.pv (.int .i64 r.1.f_v), .pv (.int .i64 r.1.f_by)], .c (.pv (.bool r.2))] := by
  refine MeetsS.toV (meetsW_of (st0 := []) (N := 65) r_eval_linear o_eval_linear r Try.func78 rfl rfl rfl (by dsimp only [argEnv]) rfl ?_) rfl
  rw [eval_linearN] at h
  refine seq_ ?_
  refine region_ ?_
  refine B rfl rfl (bir_box rfl rfl rfl) rfl rfl .z ?_
  refine B rfl rfl (bir_alloc rfl z146 rfl rfl) rfl rfl (.s .z) ?_
  refine R tbok 1 [3, 2, 1] [(3, [.c (.pv (.bool false))]), (2, [.c (.box 1 0)]), (1, [.c (.box 0 0)])] (by kernel_rfl) ?_
  refine ops_nil ?_
  refine then_ ?_
  refine seq_ ?_
  refine region_ ?_
  refine L rfl rfl (lt_build (cs := [.pv (.int .i64 (-1)), .pv (.int .i64 0)]) rfl st146 rfl (by kernel_rfl)) rfl ?_
  refine B rfl rfl (bir_alloc rfl z146 rfl rfl) rfl rfl (.s (.s .z)) ?_
  refine S rfl rfl rfl ty146 (by decide) rfl rfl rfl rfl rfl (.all rfl) (.s (.s .z)) ?_
  refine R tbok 1 [5, 4, 3, 2, 1] [(5, [.c (.pv (.bool false))]), (4, [.c (.box 2 0)]), (3, [.c (.pv (.bool false))]), (2, [.c (.box 1 0)]), (1, [.c (.box 0 0)])] (by kernel_rfl) ?_
  refine ops_nil ?_
  refine then_ ?_
  refine seq_ ?_
  refine jn_ (fun (j1 : (Bool × Int × Int)) => (⟨65, 0, [(2, [.c (.box 1 0)]), (4, [.c (.box 2 0)]), (5, [.c (.pv (.bool j1.1))])], [none, some (.box true 146 [.pv (.int .i64 0), .pv (.int .i64 0)]), some (.box true 146 [.pv (.int .i64 j1.2.1), .pv (.int .i64 j1.2.2)])]⟩ : Sx)) h wT (fun o h => ?_) (fun j1 h => ?_)
  · refine block_ ?_
    refine seq_ ?_
    refine jn_ (fun (j2 : Bool) => (⟨65, 0, [(1, [.c (.box 0 0)]), (2, [.c (.box 1 0)]), (4, [.c (.box 2 0)]), (5, [.c (.pv (.bool false))]), (7, [.c (.pv (.bool j2))])], [some (.box true 25 [.pv (.int .i64 a0.Kind), .pv (.int .i64 a0.Num), .pv (.int .i64 a0.Var), .pv (.sl (List.map e_check_Expr a0.Kids))]), some (.box true 146 [.pv (.int .i64 0), .pv (.int .i64 0)]), some (.box true 146 [.pv (.int .i64 (-1)), .pv (.int .i64 0)])]⟩ : Sx)) h wT (fun o h => ?_) (fun j2 h => ?_)
    · refine region_ ?_
      refine R tbok 4 [11, 5, 4, 2, 1] [(11, [.c (.pv (.bool (a0.Kind == 1)))]), (5, [.c (.pv (.bool false))]), (4, [.c (.box 2 0)]), (2, [.c (.box 1 0)]), (1, [.c (.box 0 0)])] (by kernel_rfl) ?_
      refine (tf (a0.Kind == 1)).elim (fun k1 => ?_) (fun k1 => ?_)
      · have h := iteT h k1
        refine Lg rfl rfl rfl k1 rfl (lt_fa_box rfl f25_3 ty23 (by decide) rfl) rfl ?_
        refine Lg rfl rfl rfl k1 rfl (lt_load_box rfl ty23 rfl rfl rfl) rfl ?_
        refine Lg rfl rfl rfl k1 rfl (len_sl (e := e_check_Expr) rfl u23 rfl) rfl ?_
        refine Lg rfl rfl rfl k1 rfl (lt_int rfl rfl rfl rfl) rfl ?_
        refine L rfl rfl (lt_pickT rfl rfl k1 rfl) rfl ?_
        refine R tbok 1 [7, 5, 4, 2, 1] [(7, [.c (.pv (.bool ((a0.Kids.length : Int) == 0)))]), (5, [.c (.pv (.bool false))]), (4, [.c (.box 2 0)]), (2, [.c (.box 1 0)]), (1, [.c (.box 0 0)])] (by kernel_rfl) ?_
        refine ops_nil ?_
        obtain rfl := retE h
        refine mN ?_
        refine w_sub (env' := [(1, [.c (.box 0 0)]), (2, [.c (.box 1 0)]), (4, [.c (.box 2 0)]), (5, [.c (.pv (.bool false))]), (7, [.c (.pv (.bool ((a0.Kids.length : Int) == 0)))])]) (sub_cons rfl (sub_cons rfl (sub_cons rfl (sub_cons rfl (sub_cons rfl sub_nil))))) ?_
        exact wkE (by kernel_rfl) (by kernel_rfl)
      · have h := iteF h k1
        refine Ls0 rfl rfl rfl k1 rfl rfl ?_
        refine Ls0 rfl rfl rfl k1 rfl rfl ?_
        refine Ls0 rfl rfl rfl k1 rfl rfl ?_
        refine Ls0 rfl rfl rfl k1 rfl rfl ?_
        refine L rfl rfl (lt_pickF rfl rfl k1 rfl) rfl ?_
        refine R tbok 1 [7, 5, 4, 2, 1] [(7, [.c (.pv (.bool false))]), (5, [.c (.pv (.bool false))]), (4, [.c (.box 2 0)]), (2, [.c (.box 1 0)]), (1, [.c (.box 0 0)])] (by kernel_rfl) ?_
        refine ops_nil ?_
        obtain rfl := retE h
        refine mN ?_
        refine w_sub (env' := [(1, [.c (.box 0 0)]), (2, [.c (.box 1 0)]), (4, [.c (.box 2 0)]), (5, [.c (.pv (.bool false))]), (7, [.c (.pv (.bool false))])]) (sub_cons rfl (sub_cons rfl (sub_cons rfl (sub_cons rfl (sub_cons rfl sub_nil))))) ?_
        exact wkE (by kernel_rfl) (by kernel_rfl)
    · refine then_ ?_
      refine cond_ (b := j2) rfl (fun k2 => ?_) (fun k2 => ?_)
      · have h := iteT h k2
        refine region_ ?_
        refine R tbok 2 [18, 2, 4, 5] [(18, [.c (.pv (.int .i64 a0.Num))]), (2, [.c (.box 1 0)]), (4, [.c (.box 2 0)]), (5, [.c (.pv (.bool false))])] (by kernel_rfl) ?_
        refine L rfl rfl (lt_build (cs := [.pv (.int .i64 (-1)), .pv (.int .i64 a0.Num)]) rfl st146 rfl (by kernel_rfl)) rfl ?_
        refine S rfl rfl rfl ty146 (by decide) rfl rfl rfl rfl rfl (.all rfl) (.s (.s .z)) ?_
        refine R tbok 1 [5, 2, 4] [(5, [.c (.pv (.bool true))]), (2, [.c (.box 1 0)]), (4, [.c (.box 2 0)])] (by kernel_rfl) ?_
        refine ops_nil ?_
        refine bN ?_
        obtain rfl := retE h
        refine mN ?_
        refine w_sub (env' := [(2, [.c (.box 1 0)]), (4, [.c (.box 2 0)]), (5, [.c (.pv (.bool true))])]) (sub_cons rfl (sub_cons rfl (sub_cons rfl sub_nil))) ?_
        refine w_none 0 .z ?_
        exact wkE (by kernel_rfl) (by kernel_rfl)
      · have h := iteF h k2
        refine seq_ ?_
        refine jn_ (fun (j3 : Bool) => (⟨65, 0, [(1, [.c (.box 0 0)]), (2, [.c (.box 1 0)]), (4, [.c (.box 2 0)]), (5, [.c (.pv (.bool false))]), (20, [.c (.pv (.bool j3))])], [some (.box true 25 [.pv (.int .i64 a0.Kind), .pv (.int .i64 a0.Num), .pv (.int .i64 a0.Var), .pv (.sl (List.map e_check_Expr a0.Kids))]), some (.box true 146 [.pv (.int .i64 0), .pv (.int .i64 0)]), some (.box true 146 [.pv (.int .i64 (-1)), .pv (.int .i64 0)])]⟩ : Sx)) h wT (fun o h => ?_) (fun j3 h => ?_)
        · refine region_ ?_
          refine R tbok 4 [24, 1, 2, 4, 5] [(24, [.c (.pv (.bool (a0.Kind == 2)))]), (1, [.c (.box 0 0)]), (2, [.c (.box 1 0)]), (4, [.c (.box 2 0)]), (5, [.c (.pv (.bool false))])] (by kernel_rfl) ?_
          refine (tf (a0.Kind == 2)).elim (fun k3 => ?_) (fun k3 => ?_)
          · have h := iteT h k3
            refine Lg rfl rfl rfl k3 rfl (lt_fa_box rfl f25_3 ty23 (by decide) rfl) rfl ?_
            refine Lg rfl rfl rfl k3 rfl (lt_load_box rfl ty23 rfl rfl rfl) rfl ?_
            refine Lg rfl rfl rfl k3 rfl (len_sl (e := e_check_Expr) rfl u23 rfl) rfl ?_
            refine Lg rfl rfl rfl k3 rfl (lt_int rfl rfl rfl rfl) rfl ?_
            refine L rfl rfl (lt_pickT rfl rfl k3 rfl) rfl ?_
            refine R tbok 1 [20, 1, 2, 4, 5] [(20, [.c (.pv (.bool ((a0.Kids.length : Int) == 0)))]), (1, [.c (.box 0 0)]), (2, [.c (.box 1 0)]), (4, [.c (.box 2 0)]), (5, [.c (.pv (.bool false))])] (by kernel_rfl) ?_
            refine ops_nil ?_
            obtain rfl := retE h
            refine mN ?_
            refine w_sub (env' := [(1, [.c (.box 0 0)]), (2, [.c (.box 1 0)]), (4, [.c (.box 2 0)]), (5, [.c (.pv (.bool false))]), (20, [.c (.pv (.bool ((a0.Kids.length : Int) == 0)))])]) (sub_cons rfl (sub_cons rfl (sub_cons rfl (sub_cons rfl (sub_cons rfl sub_nil))))) ?_
            exact wkE (by kernel_rfl) (by kernel_rfl)
          · have h := iteF h k3
            refine Ls0 rfl rfl rfl k3 rfl rfl ?_
            refine Ls0 rfl rfl rfl k3 rfl rfl ?_
            refine Ls0 rfl rfl rfl k3 rfl rfl ?_
            refine Ls0 rfl rfl rfl k3 rfl rfl ?_
            refine L rfl rfl (lt_pickF rfl rfl k3 rfl) rfl ?_
            refine R tbok 1 [20, 1, 2, 4, 5] [(20, [.c (.pv (.bool false))]), (1, [.c (.box 0 0)]), (2, [.c (.box 1 0)]), (4, [.c (.box 2 0)]), (5, [.c (.pv (.bool false))])] (by kernel_rfl) ?_
            refine ops_nil ?_
            obtain rfl := retE h
            refine mN ?_
            refine w_sub (env' := [(1, [.c (.box 0 0)]), (2, [.c (.box 1 0)]), (4, [.c (.box 2 0)]), (5, [.c (.pv (.bool false))]), (20, [.c (.pv (.bool false))])]) (sub_cons rfl (sub_cons rfl (sub_cons rfl (sub_cons rfl (sub_cons rfl sub_nil))))) ?_
            exact wkE (by kernel_rfl) (by kernel_rfl)
        · refine then_ ?_
          refine cond_ (b := j3) rfl (fun k4 => ?_) (fun k4 => ?_)
          · have h := iteT h k4
            refine region_ ?_
            refine R tbok 2 [31, 2, 4, 5] [(31, [.c (.pv (.int .i64 a0.Var))]), (2, [.c (.box 1 0)]), (4, [.c (.box 2 0)]), (5, [.c (.pv (.bool false))])] (by kernel_rfl) ?_
            refine L rfl rfl (lt_build (cs := [.pv (.int .i64 a0.Var), .pv (.int .i64 0)]) rfl st146 rfl (by kernel_rfl)) rfl ?_
            refine S rfl rfl rfl ty146 (by decide) rfl rfl rfl rfl rfl (.all rfl) (.s (.s .z)) ?_
            refine R tbok 1 [5, 2, 4] [(5, [.c (.pv (.bool true))]), (2, [.c (.box 1 0)]), (4, [.c (.box 2 0)])] (by kernel_rfl) ?_
            refine ops_nil ?_
            refine bN ?_
            obtain rfl := retE h
            refine mN ?_
            refine w_sub (env' := [(2, [.c (.box 1 0)]), (4, [.c (.box 2 0)]), (5, [.c (.pv (.bool true))])]) (sub_cons rfl (sub_cons rfl (sub_cons rfl sub_nil))) ?_
            refine w_none 0 .z ?_
            exact wkE (by kernel_rfl) (by kernel_rfl)
          · have h := iteF h k4
            refine seq_ ?_
            refine jn_ (fun (j4 : Bool) => (⟨65, 0, [(1, [.c (.box 0 0)]), (2, [.c (.box 1 0)]), (4, [.c (.box 2 0)]), (5, [.c (.pv (.bool false))]), (33, [.c (.pv (.bool j4))])], [some (.box true 25 [.pv (.int .i64 a0.Kind), .pv (.int .i64 a0.Num), .pv (.int .i64 a0.Var), .pv (.sl (List.map e_check_Expr a0.Kids))]), some (.box true 146 [.pv (.int .i64 0), .pv (.int .i64 0)]), some (.box true 146 [.pv (.int .i64 (-1)), .pv (.int .i64 0)])]⟩ : Sx)) h wT (fun o h => ?_) (fun j4 h => ?_)
            · refine region_ ?_
              refine R tbok 4 [37, 1, 2, 4, 5] [(37, [.c (.pv (.bool (a0.Kind == 4)))]), (1, [.c (.box 0 0)]), (2, [.c (.box 1 0)]), (4, [.c (.box 2 0)]), (5, [.c (.pv (.bool false))])] (by kernel_rfl) ?_
              refine (tf (a0.Kind == 4)).elim (fun k5 => ?_) (fun k5 => ?_)
              · have h := iteT h k5
                refine Ls0 rfl rfl rfl k5 rfl rfl ?_
                refine Ls0 rfl rfl rfl k5 rfl rfl ?_
                refine Ls0 rfl rfl rfl k5 rfl rfl ?_
                refine L rfl rfl (lt_pickT rfl rfl k5 rfl) rfl ?_
                refine R tbok 1 [42, 1, 2, 4, 5] [(42, [.c (.pv (.bool true))]), (1, [.c (.box 0 0)]), (2, [.c (.box 1 0)]), (4, [.c (.box 2 0)]), (5, [.c (.pv (.bool false))])] (by kernel_rfl) ?_
                refine Lg rfl rfl rfl rfl rfl (lt_fa_box rfl f25_3 ty23 (by decide) rfl) rfl ?_
                refine Lg rfl rfl rfl rfl rfl (lt_load_box rfl ty23 rfl rfl rfl) rfl ?_
                refine Lg rfl rfl rfl rfl rfl (len_sl (e := e_check_Expr) rfl u23 rfl) rfl ?_
                refine Lg rfl rfl rfl rfl rfl (lt_int rfl rfl rfl rfl) rfl ?_
                refine L rfl rfl (lt_pickT rfl rfl rfl rfl) rfl ?_
                refine R tbok 1 [33, 1, 2, 4, 5] [(33, [.c (.pv (.bool ((a0.Kids.length : Int) == 2)))]), (1, [.c (.box 0 0)]), (2, [.c (.box 1 0)]), (4, [.c (.box 2 0)]), (5, [.c (.pv (.bool false))])] (by kernel_rfl) ?_
                refine ops_nil ?_
                obtain rfl := retE h
                refine mN ?_
                refine w_sub (env' := [(1, [.c (.box 0 0)]), (2, [.c (.box 1 0)]), (4, [.c (.box 2 0)]), (5, [.c (.pv (.bool false))]), (33, [.c (.pv (.bool ((a0.Kids.length : Int) == 2)))])]) (sub_cons rfl (sub_cons rfl (sub_cons rfl (sub_cons rfl (sub_cons rfl sub_nil))))) ?_
                exact wkE (by kernel_rfl) (by kernel_rfl)
              · have h := iteF h k5
                refine Lg rfl rfl rfl k5 rfl (lt_fa_box rfl f25_0 ty3 (by decide) rfl) rfl ?_
                refine Lg rfl rfl rfl k5 rfl (lt_load_box rfl ty3 rfl rfl rfl) rfl ?_
                refine Lg rfl rfl rfl k5 rfl (lt_int rfl rfl rfl rfl) rfl ?_
                refine L rfl rfl (lt_pickF rfl rfl k5 rfl) rfl ?_
                refine R tbok 1 [42, 1, 2, 4, 5] [(42, [.c (.pv (.bool (a0.Kind == 5)))]), (1, [.c (.box 0 0)]), (2, [.c (.box 1 0)]), (4, [.c (.box 2 0)]), (5, [.c (.pv (.bool false))])] (by kernel_rfl) ?_
                refine (tf (a0.Kind == 5)).elim (fun k6 => ?_) (fun k6 => ?_)
                · have h := iteT h k6
                  refine Lg rfl rfl rfl k6 rfl (lt_fa_box rfl f25_3 ty23 (by decide) rfl) rfl ?_
                  refine Lg rfl rfl rfl k6 rfl (lt_load_box rfl ty23 rfl rfl rfl) rfl ?_
                  refine Lg rfl rfl rfl k6 rfl (len_sl (e := e_check_Expr) rfl u23 rfl) rfl ?_
                  refine Lg rfl rfl rfl k6 rfl (lt_int rfl rfl rfl rfl) rfl ?_
                  refine L rfl rfl (lt_pickT rfl rfl k6 rfl) rfl ?_
                  refine R tbok 1 [33, 1, 2, 4, 5] [(33, [.c (.pv (.bool ((a0.Kids.length : Int) == 2)))]), (1, [.c (.box 0 0)]), (2, [.c (.box 1 0)]), (4, [.c (.box 2 0)]), (5, [.c (.pv (.bool false))])] (by kernel_rfl) ?_
                  refine ops_nil ?_
                  obtain rfl := retE h
                  refine mN ?_
                  refine w_sub (env' := [(1, [.c (.box 0 0)]), (2, [.c (.box 1 0)]), (4, [.c (.box 2 0)]), (5, [.c (.pv (.bool false))]), (33, [.c (.pv (.bool ((a0.Kids.length : Int) == 2)))])]) (sub_cons rfl (sub_cons rfl (sub_cons rfl (sub_cons rfl (sub_cons rfl sub_nil))))) ?_
                  exact wkE (by kernel_rfl) (by kernel_rfl)
                · have h := iteF h k6
                  refine Ls0 rfl rfl rfl k6 rfl rfl ?_
                  refine Ls0 rfl rfl rfl k6 rfl rfl ?_
                  refine Ls0 rfl rfl rfl k6 rfl rfl ?_
                  refine Ls0 rfl rfl rfl k6 rfl rfl ?_
                  refine L rfl rfl (lt_pickF rfl rfl k6 rfl) rfl ?_
                  refine R tbok 1 [33, 1, 2, 4, 5] [(33, [.c (.pv (.bool false))]), (1, [.c (.box 0 0)]), (2, [.c (.box 1 0)]), (4, [.c (.box 2 0)]), (5, [.c (.pv (.bool false))])] (by kernel_rfl) ?_
                  refine ops_nil ?_
                  obtain rfl := retE h
                  refine mN ?_
                  refine w_sub (env' := [(1, [.c (.box 0 0)]), (2, [.c (.box 1 0)]), (4, [.c (.box 2 0)]), (5, [.c (.pv (.bool false))]), (33, [.c (.pv (.bool false))])]) (sub_cons rfl (sub_cons rfl (sub_cons rfl (sub_cons rfl (sub_cons rfl sub_nil))))) ?_
                  exact wkE (by kernel_rfl) (by kernel_rfl)
            · refine then_ ?_
              refine cond_ (b := j4) rfl (fun k7 => ?_) (fun k7 => ?_)
              · have h := iteT h k7
                refine region_ ?_
                refine R tbok 1 [49, 2, 4, 5] [(49, [.agg [.pv (.int .i64 a0.Kind), .pv (.int .i64 a0.Num), .pv (.int .i64 a0.Var), .pv (.sl (List.map e_check_Expr a0.Kids))]]), (2, [.c (.box 1 0)]), (4, [.c (.box 2 0)]), (5, [.c (.pv (.bool false))])] (by kernel_rfl) ?_
                obtain ⟨v1, k8, h⟩ := bindE h
                refine C rfl rfl (fl_call rfl Try.call92 rfl (by kernel_rfl) (by kernel_rfl) (ih_eval_pair _ _ k8)) rfl ?_
                refine R tbok 3 [52, 51, 2, 4, 5] [(52, [.c (.pv (.bool v1.2))]), (51, [.agg [.pv (.int .i64 v1.1.f_v), .pv (.int .i64 v1.1.f_by)]]), (2, [.c (.box 1 0)]), (4, [.c (.box 2 0)]), (5, [.c (.pv (.bool false))])] (by kernel_rfl) ?_
                refine S rfl rfl rfl ty146 (by decide) rfl rfl rfl rfl rfl (.all rfl) (.s (.s .z)) ?_
                refine R tbok 1 [5, 2, 4] [(5, [.c (.pv (.bool v1.2))]), (2, [.c (.box 1 0)]), (4, [.c (.box 2 0)])] (by kernel_rfl) ?_
                refine ops_nil ?_
                refine bN ?_
                obtain rfl := retE h
                refine mN ?_
                refine w_sub (env' := [(2, [.c (.box 1 0)]), (4, [.c (.box 2 0)]), (5, [.c (.pv (.bool v1.2))])]) (sub_cons rfl (sub_cons rfl (sub_cons rfl sub_nil))) ?_
                refine w_none 0 .z ?_
                exact wkE (by kernel_rfl) (by kernel_rfl)
              · have h := iteF h k7
                refine skip_ ?_
                refine bN ?_
                obtain rfl := retE h
                refine mN ?_
                refine w_sub (env' := [(2, [.c (.box 1 0)]), (4, [.c (.box 2 0)]), (5, [.c (.pv (.bool false))])]) (sub_cons rfl (sub_cons rfl (sub_cons rfl sub_nil))) ?_
                refine w_none 0 .z ?_
                exact wkE (by kernel_rfl) (by kernel_rfl)
  · refine then_ ?_
    refine seq_ ?_
    refine jn_ (fun (j5 : Bool) => (⟨65, 0, [(2, [.c (.box 1 0)]), (3, [.c (.pv (.bool j5))])], [none, some (.box true 146 [.pv (.int .i64 j1.2.1), .pv (.int .i64 j1.2.2)])]⟩ : Sx)) h wT (fun o h => ?_) (fun j5 h => ?_)
    · refine drawn_ mixed ?_
      refine dl (t := 53) 0 [.agg [.pv (.int .i64 j1.2.1), .pv (.int .i64 j1.2.2)]] rfl ?_
      refine dl (t := 54) 1 [.c (.pv (.bool j1.1))] rfl ?_
      refine dl (t := 55) 2 [.c (.pv (.bool j1.1))] rfl ?_
      refine (tf j1.1).elim (fun k9 => ?_) (fun k9 => ?_)
      · have h := iteT h k9
        refine dl (t := 56) 3 [.c (.box 2 1)] rfl ?_
        refine dl (t := 57) 4 [.c (.pv (.int .i64 j1.2.2))] rfl ?_
        refine dl (t := 58) 5 [.c (.pv (.bool (decide (j1.2.2 ≤ 1099511627776))))] rfl ?_
        refine dl (t := 59) 6 [.c (.pv (.bool (decide (j1.2.2 ≤ 1099511627776))))] rfl ?_
        refine dl (t := 60) 7 [.c (.pv (.bool (decide (j1.2.2 ≤ 1099511627776))))] rfl ?_
        refine (tf (decide (j1.2.2 ≤ 1099511627776))).elim (fun k10 => ?_) (fun k10 => ?_)
        · have h := iteT h k10
          refine dl (t := 61) 8 [.c (.box 2 1)] rfl ?_
          refine dl (t := 62) 9 [.c (.pv (.int .i64 j1.2.2))] rfl ?_
          refine dl (t := 63) 10 [.c (.pv (.bool (decide (j1.2.2 ≥ (-1099511627776)))))] rfl ?_
          refine dl (t := 64) 11 [.c (.pv (.bool (decide (j1.2.2 ≥ (-1099511627776)))))] rfl ?_
          refine d_store (wm [0, 0, 2, 6, 14, 30, 62, 126, 254, 510, 1022, 2046, 255, 8191]) 12 rfl (by kernel_rfl) (by kernel_rfl) (by kernel_rfl) (by kernel_rfl) (by kernel_rfl) (gi0 rfl) (oL [] rfl (by kernel_rfl) (fl_lt (lt_pickT rfl rfl k10 rfl)) (owF (by kernel_rfl) (fo_l [] rfl rfl rfl (by kernel_rfl) (by kernel_rfl) (by kernel_rfl) (gi1 rfl rfl rfl (beT k10)) (fl_lt (lt_int rfl rfl rfl rfl))) (owF (by kernel_rfl) (fo_l [] rfl rfl rfl (by kernel_rfl) (by kernel_rfl) (by kernel_rfl) (gi1 rfl rfl rfl (beT k10)) (fl_lt (lt_load_box rfl ty3 rfl rfl rfl))) (owF (by kernel_rfl) (fo_l [] rfl rfl rfl (by kernel_rfl) (by kernel_rfl) (by kernel_rfl) (gi1 rfl rfl rfl (beT k10)) (fl_lt (lt_fa_box rfl f146_1 ty3 (by decide) rfl))) (oE tbok [] 1 (by kernel_rfl) (oL [] rfl (by kernel_rfl) (fl_lt (lt_pickT rfl rfl k9 rfl)) (owF (by kernel_rfl) (fo_l [] rfl rfl rfl (by kernel_rfl) (by kernel_rfl) (by kernel_rfl) (gi1 rfl rfl rfl (beT k9)) (fl_lt (lt_int rfl rfl rfl rfl))) (owF (by kernel_rfl) (fo_l [] rfl rfl rfl (by kernel_rfl) (by kernel_rfl) (by kernel_rfl) (gi1 rfl rfl rfl (beT k9)) (fl_lt (lt_load_box rfl ty3 rfl rfl rfl))) (owF (by kernel_rfl) (fo_l [] rfl rfl rfl (by kernel_rfl) (by kernel_rfl) (by kernel_rfl) (gi1 rfl rfl rfl (beT k9)) (fl_lt (lt_fa_box rfl f146_1 ty3 (by decide) rfl))) (oE tbok [] 3 (by kernel_rfl) trivial)))))))))) rfl rfl ty146 rfl rfl rfl rfl rfl rfl (putE 2 (.all rfl) rfl (by decide)) (SetAt.eq (.s .z)) ?_
          refine dl (t := 3) 13 [.c (.pv (.bool (decide (j1.2.2 ≥ (-1099511627776)))))] rfl ?_
          refine d_endS (env2 := [(3, [.c (.pv (.bool (decide (j1.2.2 ≥ (-1099511627776)))))]), (2, [.c (.box 1 0)])]) (wm [0, 0, 2, 6, 14, 30, 62, 126, 254, 510, 1022, 2046, 255, 8191]) (by kernel_rfl) (by kernel_rfl) (by kernel_rfl) (oE tbok [] 1 (by kernel_rfl) (oN 1 (by kernel_rfl) (oL [] rfl (by kernel_rfl) (fl_lt (lt_pickT rfl rfl k10 rfl)) (owF (by kernel_rfl) (fo_l [] rfl rfl rfl (by kernel_rfl) (by kernel_rfl) (by kernel_rfl) (gi1 rfl rfl rfl (beT k10)) (fl_lt (lt_int rfl rfl rfl rfl))) (owF (by kernel_rfl) (fo_l [] rfl rfl rfl (by kernel_rfl) (by kernel_rfl) (by kernel_rfl) (gi1 rfl rfl rfl (beT k10)) (fl_lt (lt_load_box rfl ty3 rfl rfl rfl))) (owF (by kernel_rfl) (fo_l [] rfl rfl rfl (by kernel_rfl) (by kernel_rfl) (by kernel_rfl) (gi1 rfl rfl rfl (beT k10)) (fl_lt (lt_fa_box rfl f146_1 ty3 (by decide) rfl))) (oN 8 (by kernel_rfl) trivial))))))) (sub_cons rfl (sub_cons rfl sub_nil)) wM ?_
          obtain rfl := retE h
          refine mN ?_
          refine w_sub (env' := [(2, [.c (.box 1 0)]), (3, [.c (.pv (.bool (decide (j1.2.2 ≥ (-1099511627776)))))])]) (sub_cons rfl (sub_cons rfl sub_nil)) ?_
          refine w_cut 2 rfl rfl rfl rfl ?_
          exact wkE (by kernel_rfl) (by kernel_rfl)
        · have h := iteF h k10
          refine ds (t := 61) 8 rfl ?_
          refine ds (t := 62) 9 rfl ?_
          refine ds (t := 63) 10 rfl ?_
          refine dl (t := 64) 11 [.c (.pv (.bool false))] rfl ?_
          refine d_store (wm [0, 0, 2, 6, 14, 30, 62, 126, 254, 510, 1022, 2046, 255, 8191]) 12 rfl (by kernel_rfl) (by kernel_rfl) (by kernel_rfl) (by kernel_rfl) (by kernel_rfl) (gi0 rfl) (oL [] rfl (by kernel_rfl) (fl_lt (lt_pickF rfl rfl k10 rfl)) (owF (by kernel_rfl) (fo_s [] rfl rfl rfl (by kernel_rfl) (by kernel_rfl) (by kernel_rfl) (gi1 rfl rfl rfl (beF k10))) (owF (by kernel_rfl) (fo_s [] rfl rfl rfl (by kernel_rfl) (by kernel_rfl) (by kernel_rfl) (gi1 rfl rfl rfl (beF k10))) (owF (by kernel_rfl) (fo_s [] rfl rfl rfl (by kernel_rfl) (by kernel_rfl) (by kernel_rfl) (gi1 rfl rfl rfl (beF k10))) (oE tbok [] 1 (by kernel_rfl) (oL [] rfl (by kernel_rfl) (fl_lt (lt_pickT rfl rfl k9 rfl)) (owF (by kernel_rfl) (fo_l [] rfl rfl rfl (by kernel_rfl) (by kernel_rfl) (by kernel_rfl) (gi1 rfl rfl rfl (beT k9)) (fl_lt (lt_int rfl rfl rfl rfl))) (owF (by kernel_rfl) (fo_l [] rfl rfl rfl (by kernel_rfl) (by kernel_rfl) (by kernel_rfl) (gi1 rfl rfl rfl (beT k9)) (fl_lt (lt_load_box rfl ty3 rfl rfl rfl))) (owF (by kernel_rfl) (fo_l [] rfl rfl rfl (by kernel_rfl) (by kernel_rfl) (by kernel_rfl) (gi1 rfl rfl rfl (beT k9)) (fl_lt (lt_fa_box rfl f146_1 ty3 (by decide) rfl))) (oE tbok [] 3 (by kernel_rfl) trivial)))))))))) rfl rfl ty146 rfl rfl rfl rfl rfl rfl (putE 2 (.all rfl) rfl (by decide)) (SetAt.eq (.s .z)) ?_
          refine dl (t := 3) 13 [.c (.pv (.bool false))] rfl ?_
          refine d_endS (env2 := [(3, [.c (.pv (.bool false))]), (2, [.c (.box 1 0)])]) (wm [0, 0, 2, 6, 14, 30, 62, 126, 254, 510, 1022, 2046, 255, 8191]) (by kernel_rfl) (by kernel_rfl) (by kernel_rfl) (oE tbok [] 1 (by kernel_rfl) (oN 1 (by kernel_rfl) (oL [] rfl (by kernel_rfl) (fl_lt (lt_pickF rfl rfl k10 rfl)) (owF (by kernel_rfl) (fo_s [] rfl rfl rfl (by kernel_rfl) (by kernel_rfl) (by kernel_rfl) (gi1 rfl rfl rfl (beF k10))) (owF (by kernel_rfl) (fo_s [] rfl rfl rfl (by kernel_rfl) (by kernel_rfl) (by kernel_rfl) (gi1 rfl rfl rfl (beF k10))) (owF (by kernel_rfl) (fo_s [] rfl rfl rfl (by kernel_rfl) (by kernel_rfl) (by kernel_rfl) (gi1 rfl rfl rfl (beF k10))) (oN 8 (by kernel_rfl) trivial))))))) (sub_cons rfl (sub_cons rfl sub_nil)) wM ?_
          obtain rfl := retE h
          refine mN ?_
          refine w_sub (env' := [(2, [.c (.box 1 0)]), (3, [.c (.pv (.bool false))])]) (sub_cons rfl (sub_cons rfl sub_nil)) ?_
          refine w_cut 2 rfl rfl rfl rfl ?_
          exact wkE (by kernel_rfl) (by kernel_rfl)
      · have h := iteF h k9
        refine ds (t := 56) 3 rfl ?_
        refine ds (t := 57) 4 rfl ?_
        refine ds (t := 58) 5 rfl ?_
        refine dl (t := 59) 6 [.c (.pv (.bool false))] rfl ?_
        refine dl (t := 60) 7 [.c (.pv (.bool false))] rfl ?_
        refine ds (t := 61) 8 rfl ?_
        refine ds (t := 62) 9 rfl ?_
        refine ds (t := 63) 10 rfl ?_
        refine dl (t := 64) 11 [.c (.pv (.bool false))] rfl ?_
        refine d_store (wm [0, 0, 2, 6, 14, 30, 62, 126, 254, 510, 1022, 2046, 255, 8191]) 12 rfl (by kernel_rfl) (by kernel_rfl) (by kernel_rfl) (by kernel_rfl) (by kernel_rfl) (gi0 rfl) (oL [] rfl (by kernel_rfl) (fl_lt (lt_pickF rfl rfl rfl rfl)) (owF (by kernel_rfl) (fo_s [] rfl rfl rfl (by kernel_rfl) (by kernel_rfl) (by kernel_rfl) (gi1 rfl rfl rfl (beF rfl))) (owF (by kernel_rfl) (fo_s [] rfl rfl rfl (by kernel_rfl) (by kernel_rfl) (by kernel_rfl) (gi1 rfl rfl rfl (beF rfl))) (owF (by kernel_rfl) (fo_s [] rfl rfl rfl (by kernel_rfl) (by kernel_rfl) (by kernel_rfl) (gi1 rfl rfl rfl (beF rfl))) (oE tbok [] 1 (by kernel_rfl) (oL [] rfl (by kernel_rfl) (fl_lt (lt_pickF rfl rfl k9 rfl)) (owF (by kernel_rfl) (fo_s [] rfl rfl rfl (by kernel_rfl) (by kernel_rfl) (by kernel_rfl) (gi1 rfl rfl rfl (beF k9))) (owF (by kernel_rfl) (fo_s [] rfl rfl rfl (by kernel_rfl) (by kernel_rfl) (by kernel_rfl) (gi1 rfl rfl rfl (beF k9))) (owF (by kernel_rfl) (fo_s [] rfl rfl rfl (by kernel_rfl) (by kernel_rfl) (by kernel_rfl) (gi1 rfl rfl rfl (beF k9))) (oE tbok [] 3 (by kernel_rfl) trivial)))))))))) rfl rfl ty146 rfl rfl rfl rfl rfl rfl (putE 2 (.all rfl) rfl (by decide)) (SetAt.eq (.s .z)) ?_
        refine dl (t := 3) 13 [.c (.pv (.bool false))] rfl ?_
        refine d_endS (env2 := [(3, [.c (.pv (.bool false))]), (2, [.c (.box 1 0)])]) (wm [0, 0, 2, 6, 14, 30, 62, 126, 254, 510, 1022, 2046, 255, 8191]) (by kernel_rfl) (by kernel_rfl) (by kernel_rfl) (oE tbok [] 1 (by kernel_rfl) (oN 1 (by kernel_rfl) (oL [] rfl (by kernel_rfl) (fl_lt (lt_pickF rfl rfl rfl rfl)) (owF (by kernel_rfl) (fo_s [] rfl rfl rfl (by kernel_rfl) (by kernel_rfl) (by kernel_rfl) (gi1 rfl rfl rfl (beF rfl))) (owF (by kernel_rfl) (fo_s [] rfl rfl rfl (by kernel_rfl) (by kernel_rfl) (by kernel_rfl) (gi1 rfl rfl rfl (beF rfl))) (owF (by kernel_rfl) (fo_s [] rfl rfl rfl (by kernel_rfl) (by kernel_rfl) (by kernel_rfl) (gi1 rfl rfl rfl (beF rfl))) (oN 8 (by kernel_rfl) trivial))))))) (sub_cons rfl (sub_cons rfl sub_nil)) wM ?_
        obtain rfl := retE h
        refine mN ?_
        refine w_sub (env' := [(2, [.c (.box 1 0)]), (3, [.c (.pv (.bool false))])]) (sub_cons rfl (sub_cons rfl sub_nil)) ?_
        refine w_cut 2 rfl rfl rfl rfl ?_
        exact wkE (by kernel_rfl) (by kernel_rfl)
    · refine then_ ?_
      refine ret_ ?_
      obtain rfl := retE h
      refine rwr (rw_ (.cellA (ys := [.pv (.int .i64 j1.2.1), .pv (.int .i64 j1.2.2)]) ty146 rfl rfl (by kernel_rfl) (by kernel_rfl) (.tmp rfl .nil)) ?_)
      refine w_none 1 (.s .z) ?_
      refine w_cut 0 rfl rfl rfl rfl ?_
      exact wkE (by kernel_rfl) (by kernel_rfl)

theorem eval_pair_step {n : Nat} (ih_eval_linear : ∀ (a0 : check_Expr) (r : (eval_form × Bool)), eval_linearN n a0 = some r → MeetsV Try.prog GG 78 [.agg [.pv (.int .i64 a0.Kind), .pv (.int .i64 a0.Num), .pv (.int .i64 a0.Var), .pv (.sl (List.map e_check_Expr a0.Kids))]] [.agg [.pv (.int .i64 r.1.f_v), .pv (.int .i64 r.1.f_by)], .c (.pv (.bool r.2))]) (ih_eval_pair : ∀ (a0 : check_Expr) (r : (eval_form × Bool)), eval_pairN n a0 = some r → MeetsV Try.prog GG 92 [.agg [.pv (.int .i64 a0.Kind), .pv (.int .i64 a0.Num), .pv (.int .i64 a0.Var), .pv (.sl (List.map e_check_Expr a0.Kids))]] [.agg [.pv (.int .i64 r.1.f_v), .pv (.int .i64 r.1.f_by)], .c (.pv (.bool r.2))]) (a0 : check_Expr) (r : (eval_form × Bool)) (h : eval_pairN (n + 1) a0 = some r) : MeetsV Try.prog GG 92 [.agg [.pv (.int .i64 a0.Kind), .pv (.int .i64 a0.Num), .pv (.int .i64 a0.Var), .pv (.sl (List.map e_check_Expr a0.Kids))]] [.agg [.pv (.int .i64 r.1.f_v), .pv (.int .i64 r.1.f_by)], .c (.pv (.bool r.2))] := by
  refine MeetsS.toV (meetsW_of (st0 := []) (N := 70) r_eval_pair o_eval_pair r Try.func92 rfl rfl rfl (by dsimp only [argEnv]) rfl ?_) rfl
  rw [eval_pairN] at h
  refine seq_ ?_
  refine region_ ?_
  refine B rfl rfl (bir_box rfl rfl rfl) rfl rfl .z ?_
  refine B rfl rfl (bir_alloc rfl z146 rfl rfl) rfl rfl (.s .z) ?_
  refine R tbok 1 [3, 2, 1] [(3, [.c (.pv (.bool false))]), (2, [.c (.box 1 0)]), (1, [.c (.box 0 0)])] (by kernel_rfl) ?_
  refine ops_nil ?_
  refine then_ ?_
  refine seq_ ?_
  refine region_ ?_
  refine R tbok 2 [10, 3, 2, 1] [(10, [.c (.pv (.sl (List.map e_check_Expr a0.Kids)))]), (3, [.c (.pv (.bool false))]), (2, [.c (.box 1 0)]), (1, [.c (.box 0 0)])] (by kernel_rfl) ?_
  obtain ⟨v1, k1, h⟩ := bindE h
  refine L rfl rfl (ia_slR (e := e_check_Expr) (y := v1) rfl u23 ty25 rfl rfl k1 (e_check_Expr_eq v1) rfl) rfl ?_
  refine R tbok 1 [12, 3, 2, 1] [(12, [.agg [.pv (.int .i64 v1.Kind), .pv (.int .i64 v1.Num), .pv (.int .i64 v1.Var), .pv (.sl (List.map e_check_Expr v1.Kids))]]), (3, [.c (.pv (.bool false))]), (2, [.c (.box 1 0)]), (1, [.c (.box 0 0)])] (by kernel_rfl) ?_
  obtain ⟨v2, k2, h⟩ := bindE h
  refine C rfl rfl (fl_call rfl Try.call78 rfl (by kernel_rfl) (by kernel_rfl) (ih_eval_linear _ _ k2)) rfl ?_
  refine R tbok 3 [15, 14, 3, 2, 1] [(15, [.c (.pv (.bool v2.2))]), (14, [.agg [.pv (.int .i64 v2.1.f_v), .pv (.int .i64 v2.1.f_by)]]), (3, [.c (.pv (.bool false))]), (2, [.c (.box 1 0)]), (1, [.c (.box 0 0)])] (by kernel_rfl) ?_
  refine B rfl rfl (bir_alloc rfl z146 rfl rfl) rfl rfl (.s (.s .z)) ?_
  refine S rfl rfl rfl ty146 (by decide) rfl rfl rfl rfl rfl (.all rfl) (.s (.s .z)) ?_
  refine R tbok 1 [5, 4, 3, 2, 1] [(5, [.c (.pv (.bool v2.2))]), (4, [.c (.box 2 0)]), (3, [.c (.pv (.bool false))]), (2, [.c (.box 1 0)]), (1, [.c (.box 0 0)])] (by kernel_rfl) ?_
  refine ops_nil ?_
  refine then_ ?_
  refine seq_ ?_
  refine region_ ?_
  refine R tbok 2 [18, 5, 4, 3, 2, 1] [(18, [.c (.pv (.sl (List.map e_check_Expr a0.Kids)))]), (5, [.c (.pv (.bool v2.2))]), (4, [.c (.box 2 0)]), (3, [.c (.pv (.bool false))]), (2, [.c (.box 1 0)]), (1, [.c (.box 0 0)])] (by kernel_rfl) ?_
  obtain ⟨v3, k3, h⟩ := bindE h
  refine L rfl rfl (ia_slR (e := e_check_Expr) (y := v3) rfl u23 ty25 rfl rfl k3 (e_check_Expr_eq v3) rfl) rfl ?_
  refine R tbok 1 [20, 5, 4, 3, 2, 1] [(20, [.agg [.pv (.int .i64 v3.Kind), .pv (.int .i64 v3.Num), .pv (.int .i64 v3.Var), .pv (.sl (List.map e_check_Expr v3.Kids))]]), (5, [.c (.pv (.bool v2.2))]), (4, [.c (.box 2 0)]), (3, [.c (.pv (.bool false))]), (2, [.c (.box 1 0)]), (1, [.c (.box 0 0)])] (by kernel_rfl) ?_
  obtain ⟨v4, k4, h⟩ := bindE h
  refine C rfl rfl (fl_call rfl Try.call78 rfl (by kernel_rfl) (by kernel_rfl) (ih_eval_linear _ _ k4)) rfl ?_
  refine R tbok 3 [23, 22, 5, 4, 3, 2, 1] [(23, [.c (.pv (.bool v4.2))]), (22, [.agg [.pv (.int .i64 v4.1.f_v), .pv (.int .i64 v4.1.f_by)]]), (5, [.c (.pv (.bool v2.2))]), (4, [.c (.box 2 0)]), (3, [.c (.pv (.bool false))]), (2, [.c (.box 1 0)]), (1, [.c (.box 0 0)])] (by kernel_rfl) ?_
  refine B rfl rfl (bir_alloc rfl z146 rfl rfl) rfl rfl (.s (.s (.s .z))) ?_
  refine S rfl rfl rfl ty146 (by decide) rfl rfl rfl rfl rfl (.all rfl) (.s (.s (.s .z))) ?_
  refine R tbok 1 [7, 6, 5, 4, 3, 2, 1] [(7, [.c (.pv (.bool v4.2))]), (6, [.c (.box 3 0)]), (5, [.c (.pv (.bool v2.2))]), (4, [.c (.box 2 0)]), (3, [.c (.pv (.bool false))]), (2, [.c (.box 1 0)]), (1, [.c (.box 0 0)])] (by kernel_rfl) ?_
  refine ops_nil ?_
  refine then_ ?_
  refine seq_ ?_
  refine block_ ?_
  refine seq_ ?_
  refine jn_ (fun (j1 : Bool) => (⟨70, 0, [(1, [.c (.box 0 0)]), (2, [.c (.box 1 0)]), (3, [.c (.pv (.bool false))]), (4, [.c (.box 2 0)]), (6, [.c (.box 3 0)]), (24, [.c (.pv (.bool j1))])], [some (.box true 25 [.pv (.int .i64 a0.Kind), .pv (.int .i64 a0.Num), .pv (.int .i64 a0.Var), .pv (.sl (List.map e_check_Expr a0.Kids))]), some (.box true 146 [.pv (.int .i64 0), .pv (.int .i64 0)]), some (.box true 146 [.pv (.int .i64 v2.1.f_v), .pv (.int .i64 v2.1.f_by)]), some (.box true 146 [.pv (.int .i64 v4.1.f_v), .pv (.int .i64 v4.1.f_by)])]⟩ : Sx)) h wT (fun o h => ?_) (fun j1 h => ?_)
  · refine region_ ?_
    refine R tbok 3 [27, 7, 6, 4, 3, 2, 1] [(27, [.c (.pv (.bool (!v2.2)))]), (7, [.c (.pv (.bool v4.2))]), (6, [.c (.box 3 0)]), (4, [.c (.box 2 0)]), (3, [.c (.pv (.bool false))]), (2, [.c (.box 1 0)]), (1, [.c (.box 0 0)])] (by kernel_rfl) ?_
    refine (tf (!v2.2)).elim (fun k5 => ?_) (fun k5 => ?_)
    · have h := iteT h k5
      refine Ls0 rfl rfl rfl k5 rfl rfl ?_
      refine Ls0 rfl rfl rfl k5 rfl rfl ?_
      refine L rfl rfl (lt_pickT rfl rfl k5 rfl) rfl ?_
      refine R tbok 1 [24, 6, 4, 3, 2, 1] [(24, [.c (.pv (.bool true))]), (6, [.c (.box 3 0)]), (4, [.c (.box 2 0)]), (3, [.c (.pv (.bool false))]), (2, [.c (.box 1 0)]), (1, [.c (.box 0 0)])] (by kernel_rfl) ?_
      refine ops_nil ?_
      obtain rfl := retE h
      refine mN ?_
      refine w_sub (env' := [(1, [.c (.box 0 0)]), (2, [.c (.box 1 0)]), (3, [.c (.pv (.bool false))]), (4, [.c (.box 2 0)]), (6, [.c (.box 3 0)]), (24, [.c (.pv (.bool true))])]) (sub_cons rfl (sub_cons rfl (sub_cons rfl (sub_cons rfl (sub_cons rfl (sub_cons rfl sub_nil)))))) ?_
      exact wkE (by kernel_rfl) (by kernel_rfl)
    · have h := iteF h k5
      refine Lg rfl rfl rfl k5 rfl (lt_move rfl rfl) rfl ?_
      refine Lg rfl rfl rfl k5 rfl (lt_not rfl rfl) rfl ?_
      refine L rfl rfl (lt_pickF rfl rfl k5 rfl) rfl ?_
      refine R tbok 1 [24, 6, 4, 3, 2, 1] [(24, [.c (.pv (.bool (!v4.2)))]), (6, [.c (.box 3 0)]), (4, [.c (.box 2 0)]), (3, [.c (.pv (.bool false))]), (2, [.c (.box 1 0)]), (1, [.c (.box 0 0)])] (by kernel_rfl) ?_
      refine ops_nil ?_
      obtain rfl := retE h
      refine mN ?_
      refine w_sub (env' := [(1, [.c (.box 0 0)]), (2, [.c (.box 1 0)]), (3, [.c (.pv (.bool false))]), (4, [.c (.box 2 0)]), (6, [.c (.box 3 0)]), (24, [.c (.pv (.bool (!v4.2)))])]) (sub_cons rfl (sub_cons rfl (sub_cons rfl (sub_cons rfl (sub_cons rfl (sub_cons rfl sub_nil)))))) ?_
      exact wkE (by kernel_rfl) (by kernel_rfl)
  · refine then_ ?_
    refine cond_ (b := j1) rfl (fun k6 => ?_) (fun k6 => ?_)
    · have h := iteT h k6
      refine seq_ ?_
      refine region_ ?_
      refine L rfl rfl (lt_build (cs := [.pv (.int .i64 0), .pv (.int .i64 0)]) rfl st146 rfl (by kernel_rfl)) rfl ?_
      refine S rfl rfl rfl ty146 (by decide) rfl rfl rfl rfl rfl (.all rfl) (.s .z) ?_
      refine R tbok 1 [3, 2, 4, 6] [(3, [.c (.pv (.bool false))]), (2, [.c (.box 1 0)]), (4, [.c (.box 2 0)]), (6, [.c (.box 3 0)])] (by kernel_rfl) ?_
      refine ops_nil ?_
      refine then_ ?_
      refine ret_ ?_
      obtain rfl := retE h
      refine bR (tR (rwr (rw_ (.cellA (ys := [.pv (.int .i64 0), .pv (.int .i64 0)]) ty146 rfl rfl (by kernel_rfl) (by kernel_rfl) (.tmp rfl .nil)) ?_)))
      refine w_none 0 .z ?_
      refine w_none 1 (.s .z) ?_
      refine w_none 2 (.s (.s .z)) ?_
      refine w_none 3 (.s (.s (.s .z))) ?_
      refine w_cut 0 rfl rfl rfl rfl ?_
      exact wkE (by kernel_rfl) (by kernel_rfl)
    · have h := iteF h k6
      refine seq_ ?_
      refine jn_ (fun (j2 : Bool) => (⟨70, 0, [(1, [.c (.box 0 0)]), (2, [.c (.box 1 0)]), (3, [.c (.pv (.bool false))]), (4, [.c (.box 2 0)]), (6, [.c (.box 3 0)]), (32, [.c (.pv (.bool j2))])], [some (.box true 25 [.pv (.int .i64 a0.Kind), .pv (.int .i64 a0.Num), .pv (.int .i64 a0.Var), .pv (.sl (List.map e_check_Expr a0.Kids))]), some (.box true 146 [.pv (.int .i64 0), .pv (.int .i64 0)]), some (.box true 146 [.pv (.int .i64 v2.1.f_v), .pv (.int .i64 v2.1.f_by)]), some (.box true 146 [.pv (.int .i64 v4.1.f_v), .pv (.int .i64 v4.1.f_by)])]⟩ : Sx)) h wT (fun o h => ?_) (fun j2 h => ?_)
      · refine region_ ?_
        refine R tbok 4 [36, 1, 2, 3, 4, 6] [(36, [.c (.pv (.bool (v4.1.f_v != (-1))))]), (1, [.c (.box 0 0)]), (2, [.c (.box 1 0)]), (3, [.c (.pv (.bool false))]), (4, [.c (.box 2 0)]), (6, [.c (.box 3 0)])] (by kernel_rfl) ?_
        refine (tf (v4.1.f_v != (-1))).elim (fun k7 => ?_) (fun k7 => ?_)
        · have h := iteT h k7
          refine Lg rfl rfl rfl k7 rfl (lt_fa_box rfl f25_0 ty3 (by decide) rfl) rfl ?_
          refine Lg rfl rfl rfl k7 rfl (lt_load_box rfl ty3 rfl rfl rfl) rfl ?_
          refine Lg rfl rfl rfl k7 rfl (lt_int rfl rfl rfl rfl) rfl ?_
          refine Lg rfl rfl rfl k7 rfl (lt_move rfl rfl) rfl ?_
          refine (tf (a0.Kind == 5)).elim (fun k8 => ?_) (fun k8 => ?_)
          · have h := iteT h k8
            refine Ls0 rfl rfl rfl k8 rfl rfl ?_
            refine Ls0 rfl rfl rfl k8 rfl rfl ?_
            refine Ls0 rfl rfl rfl k8 rfl rfl ?_
            refine Lg rfl rfl rfl k7 rfl (lt_pickT rfl rfl k8 rfl) rfl ?_
            refine L rfl rfl (lt_pickT rfl rfl k7 rfl) rfl ?_
            refine R tbok 1 [32, 1, 2, 3, 4, 6] [(32, [.c (.pv (.bool true))]), (1, [.c (.box 0 0)]), (2, [.c (.box 1 0)]), (3, [.c (.pv (.bool false))]), (4, [.c (.box 2 0)]), (6, [.c (.box 3 0)])] (by kernel_rfl) ?_
            refine ops_nil ?_
            obtain rfl := retE h
            refine mN ?_
            refine w_sub (env' := [(1, [.c (.box 0 0)]), (2, [.c (.box 1 0)]), (3, [.c (.pv (.bool false))]), (4, [.c (.box 2 0)]), (6, [.c (.box 3 0)]), (32, [.c (.pv (.bool true))])]) (sub_cons rfl (sub_cons rfl (sub_cons rfl (sub_cons rfl (sub_cons rfl (sub_cons rfl sub_nil)))))) ?_
            exact wkE (by kernel_rfl) (by kernel_rfl)
          · have h := iteF h k8
            refine Lg rfl rfl rfl k8 rfl (lt_fa_box rfl f146_0 ty3 (by decide) rfl) rfl ?_
            refine Lg rfl rfl rfl k8 rfl (lt_load_box rfl ty3 rfl rfl rfl) rfl ?_
            refine Lg rfl rfl rfl k8 rfl (lt_int rfl rfl rfl rfl) rfl ?_
            refine Lg rfl rfl rfl k7 rfl (lt_pickF rfl rfl k8 rfl) rfl ?_
            refine L rfl rfl (lt_pickT rfl rfl k7 rfl) rfl ?_
            refine R tbok 1 [32, 1, 2, 3, 4, 6] [(32, [.c (.pv (.bool (v2.1.f_v != (-1))))]), (1, [.c (.box 0 0)]), (2, [.c (.box 1 0)]), (3, [.c (.pv (.bool false))]), (4, [.c (.box 2 0)]), (6, [.c (.box 3 0)])] (by kernel_rfl) ?_
            refine ops_nil ?_
            obtain rfl := retE h
            refine mN ?_
            refine w_sub (env' := [(1, [.c (.box 0 0)]), (2, [.c (.box 1 0)]), (3, [.c (.pv (.bool false))]), (4, [.c (.box 2 0)]), (6, [.c (.box 3 0)]), (32, [.c (.pv (.bool (v2.1.f_v != (-1))))])]) (sub_cons rfl (sub_cons rfl (sub_cons rfl (sub_cons rfl (sub_cons rfl (sub_cons rfl sub_nil)))))) ?_
            exact wkE (by kernel_rfl) (by kernel_rfl)
        · have h := iteF h k7
          refine Ls0 rfl rfl rfl k7 rfl rfl ?_
          refine Ls0 rfl rfl rfl k7 rfl rfl ?_
          refine Ls0 rfl rfl rfl k7 rfl rfl ?_
          refine Ls0 rfl rfl rfl k7 rfl rfl ?_
          refine Lu rfl rfl rfl rfl rfl ?_
          refine Lu rfl rfl rfl rfl rfl ?_
          refine Lu rfl rfl rfl rfl rfl ?_
          refine Ls0 rfl rfl rfl k7 rfl rfl ?_
          refine L rfl rfl (lt_pickF rfl rfl k7 rfl) rfl ?_
          refine R tbok 1 [32, 1, 2, 3, 4, 6] [(32, [.c (.pv (.bool false))]), (1, [.c (.box 0 0)]), (2, [.c (.box 1 0)]), (3, [.c (.pv (.bool false))]), (4, [.c (.box 2 0)]), (6, [.c (.box 3 0)])] (by kernel_rfl) ?_
          refine ops_nil ?_
          obtain rfl := retE h
          refine mN ?_
          refine w_sub (env' := [(1, [.c (.box 0 0)]), (2, [.c (.box 1 0)]), (3, [.c (.pv (.bool false))]), (4, [.c (.box 2 0)]), (6, [.c (.box 3 0)]), (32, [.c (.pv (.bool false))])]) (sub_cons rfl (sub_cons rfl (sub_cons rfl (sub_cons rfl (sub_cons rfl (sub_cons rfl sub_nil)))))) ?_
          exact wkE (by kernel_rfl) (by kernel_rfl)
      · refine then_ ?_
        refine cond_ (b := j2) rfl (fun k9 => ?_) (fun k9 => ?_)
        · have h := iteT h k9
          refine seq_ ?_
          refine region_ ?_
          refine L rfl rfl (lt_build (cs := [.pv (.int .i64 0), .pv (.int .i64 0)]) rfl st146 rfl (by kernel_rfl)) rfl ?_
          refine S rfl rfl rfl ty146 (by decide) rfl rfl rfl rfl rfl (.all rfl) (.s .z) ?_
          refine R tbok 1 [3, 2, 4, 6] [(3, [.c (.pv (.bool false))]), (2, [.c (.box 1 0)]), (4, [.c (.box 2 0)]), (6, [.c (.box 3 0)])] (by kernel_rfl) ?_
          refine ops_nil ?_
          refine then_ ?_
          refine ret_ ?_
          obtain rfl := retE h
          refine bR (tR (rwr (rw_ (.cellA (ys := [.pv (.int .i64 0), .pv (.int .i64 0)]) ty146 rfl rfl (by kernel_rfl) (by kernel_rfl) (.tmp rfl .nil)) ?_)))
          refine w_none 0 .z ?_
          refine w_none 1 (.s .z) ?_
          refine w_none 2 (.s (.s .z)) ?_
          refine w_none 3 (.s (.s (.s .z))) ?_
          refine w_cut 0 rfl rfl rfl rfl ?_
          exact wkE (by kernel_rfl) (by kernel_rfl)
        · have h := iteF h k9
          refine seq_ ?_
          refine region_ ?_
          refine R tbok 4 [47, 2, 3, 4, 6] [(47, [.c (.pv (.bool (a0.Kind == 5)))]), (2, [.c (.box 1 0)]), (3, [.c (.pv (.bool false))]), (4, [.c (.box 2 0)]), (6, [.c (.box 3 0)])] (by kernel_rfl) ?_
          refine ops_nil ?_
          refine then_ ?_
          refine cond_ (b := (a0.Kind == 5)) rfl (fun k10 => ?_) (fun k10 => ?_)
          · have h := iteT h k10
            refine seq_ ?_
            refine region_ ?_
            refine R tbok 7 [57, 52, 2, 3, 4, 6] [(57, [.c (.pv (.int .i64 (IntKind.i64.wrap (v2.1.f_by - v4.1.f_by))))]), (52, [.c (.pv (.int .i64 v2.1.f_v))]), (2, [.c (.box 1 0)]), (3, [.c (.pv (.bool false))]), (4, [.c (.box 2 0)]), (6, [.c (.box 3 0)])] (by kernel_rfl) ?_
            refine L rfl rfl (lt_build (cs := [.pv (.int .i64 v2.1.f_v), .pv (.int .i64 (IntKind.i64.wrap (v2.1.f_by - v4.1.f_by)))]) rfl st146 rfl (by kernel_rfl)) rfl ?_
            refine S rfl rfl rfl ty146 (by decide) rfl rfl rfl rfl rfl (.all rfl) (.s .z) ?_
            refine R tbok 1 [3, 2, 4, 6] [(3, [.c (.pv (.bool true))]), (2, [.c (.box 1 0)]), (4, [.c (.box 2 0)]), (6, [.c (.box 3 0)])] (by kernel_rfl) ?_
            refine ops_nil ?_
            refine then_ ?_
            refine ret_ ?_
            obtain rfl := retE h
            refine bR (tR (rwr (rw_ (.cellA (ys := [.pv (.int .i64 v2.1.f_v), .pv (.int .i64 (IntKind.i64.wrap (v2.1.f_by - v4.1.f_by)))]) ty146 rfl rfl (by kernel_rfl) (by kernel_rfl) (.tmp rfl .nil)) ?_)))
            refine w_none 0 .z ?_
            refine w_none 1 (.s .z) ?_
            refine w_none 2 (.s (.s .z)) ?_
            refine w_none 3 (.s (.s (.s .z))) ?_
            refine w_cut 0 rfl rfl rfl rfl ?_
            exact wkE (by kernel_rfl) (by kernel_rfl)
          · have h := iteF h k10
            refine skip_ ?_
            refine bN ?_
            refine then_ ?_
            refine seq_ ?_
            refine region_ ?_
            refine R tbok 4 [62, 60, 2, 3, 4, 6] [(62, [.c (.pv (.int .i64 v4.1.f_v))]), (60, [.c (.pv (.int .i64 v2.1.f_v))]), (2, [.c (.box 1 0)]), (3, [.c (.pv (.bool false))]), (4, [.c (.box 2 0)]), (6, [.c (.box 3 0)])] (by kernel_rfl) ?_
            refine L rfl rfl (lt_max2 rfl rfl rfl) rfl ?_
            refine R tbok 5 [68, 63, 2, 3] [(68, [.c (.pv (.int .i64 (IntKind.i64.wrap (v2.1.f_by + v4.1.f_by))))]), (63, [.c (.pv (.int .i64 (max v2.1.f_v v4.1.f_v)))]), (2, [.c (.box 1 0)]), (3, [.c (.pv (.bool false))])] (by kernel_rfl) ?_
            refine L rfl rfl (lt_build (cs := [.pv (.int .i64 (max v2.1.f_v v4.1.f_v)), .pv (.int .i64 (IntKind.i64.wrap (v2.1.f_by + v4.1.f_by)))]) rfl st146 rfl (by kernel_rfl)) rfl ?_
            refine S rfl rfl rfl ty146 (by decide) rfl rfl rfl rfl rfl (.all rfl) (.s .z) ?_
            refine R tbok 1 [3, 2] [(3, [.c (.pv (.bool true))]), (2, [.c (.box 1 0)])] (by kernel_rfl) ?_
            refine ops_nil ?_
            refine then_ ?_
            refine ret_ ?_
            obtain rfl := retE h
            refine rwr (rw_ (.cellA (ys := [.pv (.int .i64 (max v2.1.f_v v4.1.f_v)), .pv (.int .i64 (IntKind.i64.wrap (v2.1.f_by + v4.1.f_by)))]) ty146 rfl rfl (by kernel_rfl) (by kernel_rfl) (.tmp rfl .nil)) ?_)
            refine w_none 0 .z ?_
            refine w_none 1 (.s .z) ?_
            refine w_none 2 (.s (.s .z)) ?_
            refine w_none 3 (.s (.s (.s .z))) ?_
            refine w_cut 0 rfl rfl rfl rfl ?_
            exact wkE (by kernel_rfl) (by kernel_rfl)

theorem eval_linear_eval_pair_all : ∀ n : Nat, (∀ (a0 : check_Expr) (r : (eval_form × Bool)), eval_linearN n a0 = some r → MeetsV Try.prog GG 78 [.agg [.pv (.int .i64 a0.Kind), .pv (.int .i64 a0.Num), .pv (.int .i64 a0.Var), .pv (.sl (List.map e_check_Expr a0.Kids))]] [.agg [.pv (.int .i64 r.1.f_v), .pv (.int .i64 r.1.f_by)], .c (.pv (.bool r.2))]) ∧ (∀ (a0 : check_Expr) (r : (eval_form × Bool)), eval_pairN n a0 = some r → MeetsV Try.prog GG 92 [.agg [.pv (.int .i64 a0.Kind), .pv (.int .i64 a0.Num), .pv (.int .i64 a0.Var), .pv (.sl (List.map e_check_Expr a0.Kids))]] [.agg [.pv (.int .i64 r.1.f_v), .pv (.int .i64 r.1.f_by)], .c (.pv (.bool r.2))])
  | 0 => ⟨(fun _ _ h => by rw [eval_linearN] at h; cases h), (fun _ _ h => by rw [eval_pairN] at h; cases h)⟩
  | n + 1 => by
    have ih := eval_linear_eval_pair_all n
    exact ⟨eval_linear_step ih.1 ih.2, eval_pair_step ih.1 ih.2⟩

theorem eval_linear_meets {a0 : check_Expr} {r : (eval_form × Bool)} (h : eval_linear a0 = some r) : MeetsV Try.prog GG 78 [.agg [.pv (.int .i64 a0.Kind), .pv (.int .i64 a0.Num), .pv (.int .i64 a0.Var), .pv (.sl (List.map e_check_Expr a0.Kids))]] [.agg [.pv (.int .i64 r.1.f_v), .pv (.int .i64 r.1.f_by)], .c (.pv (.bool r.2))] := by
  obtain ⟨n, hn⟩ := unfE h
  exact (eval_linear_eval_pair_all n).1 _ _ hn

theorem eval_pair_meets {a0 : check_Expr} {r : (eval_form × Bool)} (h : eval_pair a0 = some r) : MeetsV Try.prog GG 92 [.agg [.pv (.int .i64 a0.Kind), .pv (.int .i64 a0.Num), .pv (.int .i64 a0.Var), .pv (.sl (List.map e_check_Expr a0.Kids))]] [.agg [.pv (.int .i64 r.1.f_v), .pv (.int .i64 r.1.f_by)], .c (.pv (.bool r.2))] := by
  obtain ⟨n, hn⟩ := unfE h
  exact (eval_linear_eval_pair_all n).2 _ _ hn

theorem eval_Linear_meets {a0 : check_Expr} {r : (Int × Int × Bool)} (h : eval_Linear a0 = some r) : MeetsV Try.prog GG 73 [.agg [.pv (.int .i64 a0.Kind), .pv (.int .i64 a0.Num), .pv (.int .i64 a0.Var), .pv (.sl (List.map e_check_Expr a0.Kids))]] [.c (.pv (.int .i64 r.1)), .c (.pv (.int .i64 r.2.1)), .c (.pv (.bool r.2.2))] := by
  refine MeetsS.toV (meetsW_of (st0 := []) (N := 18) r_eval_Linear o_eval_Linear r Try.func73 rfl rfl rfl (by dsimp only [argEnv]) rfl ?_) rfl
  unfold eval_Linear at h
  refine seq_ ?_
  refine region_ ?_
  refine B rfl rfl (bir_box rfl rfl rfl) rfl rfl .z ?_
  refine R tbok 3 [4, 3, 2, 1] [(4, [.c (.pv (.bool false))]), (3, [.c (.pv (.int .i64 0))]), (2, [.c (.pv (.int .i64 0))]), (1, [.c (.box 0 0)])] (by kernel_rfl) ?_
  refine ops_nil ?_
  refine then_ ?_
  refine seq_ ?_
  refine region_ ?_
  refine R tbok 1 [8, 4, 3, 2] [(8, [.agg [.pv (.int .i64 a0.Kind), .pv (.int .i64 a0.Num), .pv (.int .i64 a0.Var), .pv (.sl (List.map e_check_Expr a0.Kids))]]), (4, [.c (.pv (.bool false))]), (3, [.c (.pv (.int .i64 0))]), (2, [.c (.pv (.int .i64 0))])] (by kernel_rfl) ?_
  obtain ⟨v1, k1, h⟩ := bindE h
  refine C rfl rfl (fl_call rfl Try.call78 rfl (by kernel_rfl) (by kernel_rfl) (eval_linear_meets k1)) rfl ?_
  refine R tbok 3 [11, 10, 4, 3, 2] [(11, [.c (.pv (.bool v1.2))]), (10, [.agg [.pv (.int .i64 v1.1.f_v), .pv (.int .i64 v1.1.f_by)]]), (4, [.c (.pv (.bool false))]), (3, [.c (.pv (.int .i64 0))]), (2, [.c (.pv (.int .i64 0))])] (by kernel_rfl) ?_
  refine B rfl rfl (bir_alloc rfl z146 rfl rfl) rfl rfl (.s .z) ?_
  refine S rfl rfl rfl ty146 (by decide) rfl rfl rfl rfl rfl (.all rfl) (.s .z) ?_
  refine R tbok 1 [6, 5, 4, 3, 2] [(6, [.c (.pv (.bool v1.2))]), (5, [.c (.box 1 0)]), (4, [.c (.pv (.bool false))]), (3, [.c (.pv (.int .i64 0))]), (2, [.c (.pv (.int .i64 0))])] (by kernel_rfl) ?_
  refine ops_nil ?_
  refine then_ ?_
  refine seq_ ?_
  refine seq_ ?_
  refine region_ ?_
  refine R tbok 2 [13, 5, 4, 3, 2] [(13, [.c (.pv (.bool (!v1.2)))]), (5, [.c (.box 1 0)]), (4, [.c (.pv (.bool false))]), (3, [.c (.pv (.int .i64 0))]), (2, [.c (.pv (.int .i64 0))])] (by kernel_rfl) ?_
  refine ops_nil ?_
  refine then_ ?_
  refine cond_ (b := (!v1.2)) rfl (fun k2 => ?_) (fun k2 => ?_)
  · have h := iteT h k2
    refine seq_ ?_
    refine region_ ?_
    refine R tbok 3 [4, 3, 2, 5] [(4, [.c (.pv (.bool false))]), (3, [.c (.pv (.int .i64 0))]), (2, [.c (.pv (.int .i64 0))]), (5, [.c (.box 1 0)])] (by kernel_rfl) ?_
    refine ops_nil ?_
    refine then_ ?_
    refine ret_ ?_
    obtain rfl := retE h
    refine tR (rwr (rw_ (.tmp rfl (.tmp rfl (.tmp rfl .nil))) ?_))
    refine w_none 0 .z ?_
    refine w_none 1 (.s .z) ?_
    refine w_cut 0 rfl rfl rfl rfl ?_
    exact wkE (by kernel_rfl) (by kernel_rfl)
  · have h := iteF h k2
    refine skip_ ?_
    refine then_ ?_
    refine seq_ ?_
    refine drawn_ mixed ?_
    refine dl (t := 14) 0 [.c (.box 1 0)] rfl ?_
    refine dl (t := 15) 1 [.c (.pv (.int .i64 v1.1.f_v))] rfl ?_
    refine dl (t := 16) 2 [.c (.box 1 1)] rfl ?_
    refine dl (t := 17) 3 [.c (.pv (.int .i64 v1.1.f_by))] rfl ?_
    refine dl (t := 2) 4 [.c (.pv (.int .i64 v1.1.f_v))] rfl ?_
    refine dl (t := 3) 5 [.c (.pv (.int .i64 v1.1.f_by))] rfl ?_
    refine dl (t := 4) 6 [.c (.pv (.bool true))] rfl ?_
    refine d_endS (env2 := [(4, [.c (.pv (.bool true))]), (3, [.c (.pv (.int .i64 v1.1.f_by))]), (2, [.c (.pv (.int .i64 v1.1.f_v))])]) (wm [0, 1, 0, 4, 3, 31, 63]) (by kernel_rfl) (by kernel_rfl) (by kernel_rfl) (oE tbok [] 7 (by kernel_rfl) trivial) (sub_cons rfl (sub_cons rfl (sub_cons rfl sub_nil))) wT ?_
    refine then_ ?_
    refine ret_ ?_
    obtain rfl := retE h
    refine rwr (rw_ (.tmp rfl (.tmp rfl (.tmp rfl .nil))) ?_)
    refine w_none 0 .z ?_
    refine w_none 1 (.s .z) ?_
    refine w_cut 0 rfl rfl rfl rfl ?_
    exact wkE (by kernel_rfl) (by kernel_rfl)

theorem zone_orNought_meets {a0 : zone_Zone} {a1 : Int} {r : Bool} (h : zone_orNought a0 a1 = some r) : MeetsV Try.prog GG 70 [.agg (bs (e_zone_Zone a0)), .c (.pv (.int .i64 a1))] [.c (.pv (.bool r))] := by
  refine MeetsS.toV (meetsW_of (st0 := []) (N := 22) r_zone_orNought o_zone_orNought r Try.func70 rfl rfl rfl (by dsimp only [argEnv]) rfl ?_) rfl
  unfold zone_orNought at h
  refine seq_ ?_
  refine region_ ?_
  refine B rfl rfl (bir_box rfl rfl rfl) rfl rfl .z ?_
  refine R tbok 1 [4, 2, 1] [(4, [.c (.pv (.bool false))]), (2, [.c (.box 0 0)]), (1, [.c (.pv (.int .i64 a1))])] (by kernel_rfl) ?_
  refine ops_nil ?_
  refine then_ ?_
  refine seq_ ?_
  refine jn_ (fun (j1 : Bool) => (⟨22, 0, [(4, [.c (.pv (.bool j1))])], []⟩ : Sx)) h wT (fun o h => ?_) (fun j1 h => ?_)
  · refine region_ ?_
    refine R tbok 3 [7, 4, 2, 1] [(7, [.c (.pv (.bool (a1 == (-1))))]), (4, [.c (.pv (.bool false))]), (2, [.c (.box 0 0)]), (1, [.c (.pv (.int .i64 a1))])] (by kernel_rfl) ?_
    refine (tf (a1 == (-1))).elim (fun k1 => ?_) (fun k1 => ?_)
    · have h := iteT h k1
      refine Lg rfl rfl rfl k1 rfl (lt_fa_box rfl f44_0 ty3 (by decide) rfl) rfl ?_
      refine Lg rfl rfl rfl k1 rfl (lt_load_box rfl ty3 rfl rfl rfl) rfl ?_
      obtain ⟨v1, k2, h⟩ := bindE h
      refine Hg rfl rfl rfl k1 rfl rfl (op_fl rfl rfl (fl_call rfl Try.call48 rfl (by kernel_rfl) (by kernel_rfl) (zone_count_meets k2)) ?_)
      refine L rfl rfl (lt_pickT rfl rfl k1 rfl) rfl ?_
      refine R tbok 1 [12, 4, 2, 1] [(12, [.c (.pv (.bool v1))]), (4, [.c (.pv (.bool false))]), (2, [.c (.box 0 0)]), (1, [.c (.pv (.int .i64 a1))])] (by kernel_rfl) ?_
      refine (tf v1).elim (fun k3 => ?_) (fun k3 => ?_)
      · have h := iteT h k3
        refine Lg rfl rfl rfl k3 rfl (lt_fa_box rfl f44_1 ty4 (by decide) rfl) rfl ?_
        refine Lg rfl rfl rfl k3 rfl (lt_load_box rfl ty4 rfl rfl rfl) rfl ?_
        refine Lg rfl rfl rfl k3 rfl (lt_not rfl rfl) rfl ?_
        refine L rfl rfl (lt_pickT rfl rfl k3 rfl) rfl ?_
        refine R tbok 1 [17, 4, 2, 1] [(17, [.c (.pv (.bool (!a0.None)))]), (4, [.c (.pv (.bool false))]), (2, [.c (.box 0 0)]), (1, [.c (.pv (.int .i64 a1))])] (by kernel_rfl) ?_
        refine (tf (!a0.None)).elim (fun k4 => ?_) (fun k4 => ?_)
        · have h := iteT h k4
          refine Ls0 rfl rfl rfl k4 rfl rfl ?_
          refine Ls0 rfl rfl rfl k4 rfl rfl ?_
          refine Ls0 rfl rfl rfl k4 rfl rfl ?_
          refine L rfl rfl (lt_pickT rfl rfl k4 rfl) rfl ?_
          refine R tbok 1 [4] [(4, [.c (.pv (.bool true))])] (by kernel_rfl) ?_
          refine ops_nil ?_
          obtain rfl := retE h
          refine mN ?_
          refine w_cut 0 rfl rfl rfl rfl ?_
          exact wkE (by kernel_rfl) (by kernel_rfl)
        · have h := iteF h k4
          refine Lg rfl rfl rfl k4 rfl (lt_load_boxA (ys := (bs (e_zone_Zone a0))) rfl ty44 rfl rfl (by kernel_rfl) (by kernel_rfl)) rfl ?_
          refine Lg rfl rfl rfl k4 rfl (lt_move rfl rfl) rfl ?_
          obtain ⟨v2, k5, h⟩ := bindE h
          refine Hg rfl rfl rfl k4 rfl rfl (op_fl rfl rfl (fl_call rfl Try.call53 rfl (by kernel_rfl) (by kernel_rfl) (zone_variable_meets k5)) ?_)
          refine L rfl rfl (lt_pickF rfl rfl k4 rfl) rfl ?_
          refine R tbok 1 [4] [(4, [.c (.pv (.bool v2))])] (by kernel_rfl) ?_
          refine ops_nil ?_
          obtain rfl := retE h
          refine mN ?_
          refine w_cut 0 rfl rfl rfl rfl ?_
          exact wkE (by kernel_rfl) (by kernel_rfl)
      · have h := iteF h k3
        refine Ls0 rfl rfl rfl k3 rfl rfl ?_
        refine Ls0 rfl rfl rfl k3 rfl rfl ?_
        refine Ls0 rfl rfl rfl k3 rfl rfl ?_
        refine L rfl rfl (lt_pickF rfl rfl k3 rfl) rfl ?_
        refine R tbok 1 [17, 4, 2, 1] [(17, [.c (.pv (.bool false))]), (4, [.c (.pv (.bool false))]), (2, [.c (.box 0 0)]), (1, [.c (.pv (.int .i64 a1))])] (by kernel_rfl) ?_
        refine Lg rfl rfl rfl rfl rfl (lt_load_boxA (ys := (bs (e_zone_Zone a0))) rfl ty44 rfl rfl (by kernel_rfl) (by kernel_rfl)) rfl ?_
        refine Lg rfl rfl rfl rfl rfl (lt_move rfl rfl) rfl ?_
        obtain ⟨v3, k6, h⟩ := bindE h
        refine Hg rfl rfl rfl rfl rfl rfl (op_fl rfl rfl (fl_call rfl Try.call53 rfl (by kernel_rfl) (by kernel_rfl) (zone_variable_meets k6)) ?_)
        refine L rfl rfl (lt_pickF rfl rfl rfl rfl) rfl ?_
        refine R tbok 1 [4] [(4, [.c (.pv (.bool v3))])] (by kernel_rfl) ?_
        refine ops_nil ?_
        obtain rfl := retE h
        refine mN ?_
        refine w_cut 0 rfl rfl rfl rfl ?_
        exact wkE (by kernel_rfl) (by kernel_rfl)
    · have h := iteF h k1
      refine Ls0 rfl rfl rfl k1 rfl rfl ?_
      refine Ls0 rfl rfl rfl k1 rfl rfl ?_
      refine Ls0 rfl rfl rfl k1 rfl rfl ?_
      refine L rfl rfl (lt_pickF rfl rfl k1 rfl) rfl ?_
      refine R tbok 1 [12, 4, 2, 1] [(12, [.c (.pv (.bool false))]), (4, [.c (.pv (.bool false))]), (2, [.c (.box 0 0)]), (1, [.c (.pv (.int .i64 a1))])] (by kernel_rfl) ?_
      refine Ls0 rfl rfl rfl rfl rfl rfl ?_
      refine Ls0 rfl rfl rfl rfl rfl rfl ?_
      refine Ls0 rfl rfl rfl rfl rfl rfl ?_
      refine L rfl rfl (lt_pickF rfl rfl rfl rfl) rfl ?_
      refine R tbok 1 [17, 4, 2, 1] [(17, [.c (.pv (.bool false))]), (4, [.c (.pv (.bool false))]), (2, [.c (.box 0 0)]), (1, [.c (.pv (.int .i64 a1))])] (by kernel_rfl) ?_
      refine Lg rfl rfl rfl rfl rfl (lt_load_boxA (ys := (bs (e_zone_Zone a0))) rfl ty44 rfl rfl (by kernel_rfl) (by kernel_rfl)) rfl ?_
      refine Lg rfl rfl rfl rfl rfl (lt_move rfl rfl) rfl ?_
      obtain ⟨v4, k7, h⟩ := bindE h
      refine Hg rfl rfl rfl rfl rfl rfl (op_fl rfl rfl (fl_call rfl Try.call53 rfl (by kernel_rfl) (by kernel_rfl) (zone_variable_meets k7)) ?_)
      refine L rfl rfl (lt_pickF rfl rfl rfl rfl) rfl ?_
      refine R tbok 1 [4] [(4, [.c (.pv (.bool v4))])] (by kernel_rfl) ?_
      refine ops_nil ?_
      obtain rfl := retE h
      refine mN ?_
      refine w_cut 0 rfl rfl rfl rfl ?_
      exact wkE (by kernel_rfl) (by kernel_rfl)
  · refine then_ ?_
    refine ret_ ?_
    obtain rfl := retE h
    refine rwr (rw_ (.tmp rfl .nil) ?_)
    exact wkE (by kernel_rfl) (by kernel_rfl)

theorem zone_Zone_own_meets {a0 : zone_Zone} {r : zone_Zone} (h : zone_Zone_own a0 = some r) : MeetsS Try.prog GG 71 [.c (.box 0 0)] [some (.box true 44 (bs (e_zone_Zone a0)))] [] [some (.box true 44 (bs (e_zone_Zone r)))] := by
  refine meetsW_of (N := 39) r_zone_Zone_own o_zone_Zone_own r Try.func71 rfl rfl rfl (by dsimp only [argEnv]) rfl ?_
  unfold zone_Zone_own at h
  refine seq_ ?_
  refine region_ ?_
  refine R tbok 1 [2, 0] [(2, [.c (.pv (.int .i64 1))]), (0, [.c (.box 0 0)])] (by kernel_rfl) ?_
  refine ops_nil ?_
  refine then_ ?_
  refine lp_ (Qr := RW Try.prog GG Try.f71 1 r_zone_Zone_own o_zone_Zone_own) (zone_Zone_own_l1) (fun (x1 : (Int × zone_Zone)) => (⟨39, 1, [(0, [.c (.box 0 0)]), (2, [.c (.pv (.int .i64 x1.1))])], [some (.box true 44 (bs (e_zone_Zone x1.2)))]⟩ : Sx)) (fun (j1 : zone_Zone) => (⟨39, 1, [], [some (.box true 44 (bs (e_zone_Zone j1)))]⟩ : Sx)) (1, a0) RW.only h wW ?_ (fun x1 o h => ?_) (fun r h s' hs => ?_) (fun j1 h => ?_)
  · refine w_sub (env' := [(0, [.c (.box 0 0)]), (2, [.c (.pv (.int .i64 1))])]) (sub_cons rfl (sub_cons rfl sub_nil)) ?_
    exact wkE (by kernel_rfl) (by kernel_rfl)
  · unfold zone_Zone_own_l1 at h
    refine seq_ ?_
    refine seq_ ?_
    refine region_ ?_
    refine R tbok 6 [8, 0, 2] [(8, [.c (.pv (.bool (decide (x1.1 ≤ x1.2.N))))]), (0, [.c (.box 0 0)]), (2, [.c (.pv (.int .i64 x1.1))])] (by kernel_rfl) ?_
    refine ops_nil ?_
    refine then_ ?_
    refine cond_ (b := (decide (x1.1 ≤ x1.2.N))) rfl (fun k1 => ?_) (fun k1 => ?_)
    · have h := iteT h k1
      refine skip_ ?_
      refine then_ ?_
      refine seq_ ?_
      refine block_ ?_
      refine seq_ ?_
      refine drawn_ mixed ?_
      refine dl (t := 11) 0 [.c (.box 0 0)] rfl ?_
      refine dl (t := 12) 1 [.c (.pv (.int .i64 x1.1))] rfl ?_
      refine dl (t := 13) 2 [.c (.box 0 0)] rfl ?_
      refine dl (t := 14) 3 [.c (.pv (.int .i64 x1.1))] rfl ?_
      refine dl (t := 15) 4 [.c (.box 0 0)] rfl ?_
      refine dl (t := 16) 5 [.c (.box 0 2)] rfl ?_
      obtain ⟨v1, k2, h⟩ := bindE h
      refine dl (t := 17) 6 [.c (.box 0 (2 + v1 * 7))] rfl ?_
      refine dl (t := 18) 7 [.c (.box 0 (2 + v1 * 7 + 0 * 1))] rfl ?_
      refine dl (t := 19) 8 [.c (.pv (.int .i64 ((x1.2.D v1) 0)))] rfl ?_
      refine dl (t := 20) 9 [.c (.pv (.int .i64 (min ((x1.2.D v1) 0) 2147483647)))] rfl ?_
      refine dl (t := 21) 10 [.c (.box 0 0)] rfl ?_
      refine dl (t := 22) 11 [.c (.box 0 2)] rfl ?_
      obtain ⟨v2, k3, h⟩ := bindE h
      refine dl (t := 23) 12 [.c (.box 0 (2 + v2 * 7))] rfl ?_
      refine dl (t := 24) 13 [.c (.box 0 (2 + v2 * 7 + 0 * 1))] rfl ?_
      obtain ⟨v3, k4, h⟩ := bindE h
      refine d_storeG (cs' := [.pv (.int .i64 x1.2.N), .pv (.bool x1.2.None), .pv (.int .i64 ((v3 0) 0)), .pv (.int .i64 ((v3 0) 1)), .pv (.int .i64 ((v3 0) 2)), .pv (.int .i64 ((v3 0) 3)), .pv (.int .i64 ((v3 0) 4)), .pv (.int .i64 ((v3 0) 5)), .pv (.int .i64 ((v3 0) 6)), .pv (.int .i64 ((v3 1) 0)), .pv (.int .i64 ((v3 1) 1)), .pv (.int .i64 ((v3 1) 2)), .pv (.int .i64 ((v3 1) 3)), .pv (.int .i64 ((v3 1) 4)), .pv (.int .i64 ((v3 1) 5)), .pv (.int .i64 ((v3 1) 6)), .pv (.int .i64 ((v3 2) 0)), .pv (.int .i64 ((v3 2) 1)), .pv (.int .i64 ((v3 2) 2)), .pv (.int .i64 ((v3 2) 3)), .pv (.int .i64 ((v3 2) 4)), .pv (.int .i64 ((v3 2) 5)), .pv (.int .i64 ((v3 2) 6)), .pv (.int .i64 ((v3 3) 0)), .pv (.int .i64 ((v3 3) 1)), .pv (.int .i64 ((v3 3) 2)), .pv (.int .i64 ((v3 3) 3)), .pv (.int .i64 ((v3 3) 4)), .pv (.int .i64 ((v3 3) 5)), .pv (.int .i64 ((v3 3) 6)), .pv (.int .i64 ((v3 4) 0)), .pv (.int .i64 ((v3 4) 1)), .pv (.int .i64 ((v3 4) 2)), .pv (.int .i64 ((v3 4) 3)), .pv (.int .i64 ((v3 4) 4)), .pv (.int .i64 ((v3 4) 5)), .pv (.int .i64 ((v3 4) 6)), .pv (.int .i64 ((v3 5) 0)), .pv (.int .i64 ((v3 5) 1)), .pv (.int .i64 ((v3 5) 2)), .pv (.int .i64 ((v3 5) 3)), .pv (.int .i64 ((v3 5) 4)), .pv (.int .i64 ((v3 5) 5)), .pv (.int .i64 ((v3 5) 6)), .pv (.int .i64 ((v3 6) 0)), .pv (.int .i64 ((v3 6) 1)), .pv (.int .i64 ((v3 6) 2)), .pv (.int .i64 ((v3 6) 3)), .pv (.int .i64 ((v3 6) 4)), .pv (.int .i64 ((v3 6) 5)), .pv (.int .i64 ((v3 6) 6))]) (wm [0, 0, 0, 0, 4, 20, 60, 124, 252, 508, 1, 1025, 3075, 8191, 16383]) 14 rfl (by kernel_rfl) (by kernel_rfl) (by kernel_rfl) (by kernel_rfl) (by kernel_rfl) (gi0 rfl) (oL [] rfl (by kernel_rfl) (fl_lt (ia_boxD rfl u41 ty3 rfl rfl (kk := 0) (by rfl))) (oL [] rfl (by kernel_rfl) (fl_lt (ia_boxD rfl u42 ty41 rfl rfl k3)) (oE tbok [] 2 (by kernel_rfl) (oL [] rfl (by kernel_rfl) (fl_lt (lt_min2 rfl rfl rfl)) (oL [] rfl (by kernel_rfl) (fl_lt (lt_load_box rfl ty3 rfl rfl (at2 (e := (PV.int .i64)) (D2 := x1.2.D) (pre := [.int .i64 x1.2.N, .bool x1.2.None]) (post := []) (n1 := 7) (n2 := 7) (by kernel_rfl) (inA_lt k2) (by decide)))) (oL [] rfl (by kernel_rfl) (fl_lt (ia_boxD rfl u41 ty3 rfl rfl (kk := 0) (by rfl))) (oL [] rfl (by kernel_rfl) (fl_lt (ia_boxD rfl u42 ty41 rfl rfl k2)) (oE tbok [] 6 (by kernel_rfl) trivial)))))))) rfl rfl ty3 rfl rfl rfl rfl rfl (fit2 (e := (PV.int .i64)) (D2 := x1.2.D) (pre := [.int .i64 x1.2.N, .bool x1.2.None]) (post := []) (n1 := 7) (n2 := 7) (by kernel_rfl) (inA_lt k3) (by decide)) (put2 (e := (PV.int .i64)) (D2 := x1.2.D) (pre := [.int .i64 x1.2.N, .bool x1.2.None]) (post := []) (n1 := 7) (n2 := 7) (by kernel_rfl) (inA_lt k3) (by decide) (retE k4) (by kernel_rfl)) (SetAt.eq .z) ?_
      refine d_endS (env2 := [(0, [.c (.box 0 0)]), (2, [.c (.pv (.int .i64 x1.1))])]) (wm [0, 0, 0, 0, 4, 20, 60, 124, 252, 508, 1, 1025, 3075, 8191, 16383]) (by kernel_rfl) (by kernel_rfl) (by kernel_rfl) (oN 15 (by kernel_rfl) trivial) (sub_cons rfl (sub_cons rfl sub_nil)) wT ?_
      refine then_ ?_
      refine drawn_ mixed ?_
      refine dl (t := 25) 0 [.c (.box 0 0)] rfl ?_
      refine dl (t := 26) 1 [.c (.pv (.int .i64 x1.1))] rfl ?_
      refine dl (t := 27) 2 [.c (.box 0 0)] rfl ?_
      refine dl (t := 28) 3 [.c (.pv (.int .i64 x1.1))] rfl ?_
      refine dl (t := 29) 4 [.c (.box 0 0)] rfl ?_
      refine dl (t := 30) 5 [.c (.box 0 2)] rfl ?_
      refine dl (t := 31) 6 [.c (.box 0 2)] rfl ?_
      obtain ⟨v4, k5, h⟩ := bindE h
      refine dl (t := 32) 7 [.c (.box 0 (2 + 0 * 7 + v4 * 1))] rfl ?_
      refine dl (t := 33) 8 [.c (.pv (.int .i64 ((v3 0) v4)))] rfl ?_
      refine dl (t := 34) 9 [.c (.pv (.int .i64 (min ((v3 0) v4) 2147483648)))] rfl ?_
      refine dl (t := 35) 10 [.c (.box 0 0)] rfl ?_
      refine dl (t := 36) 11 [.c (.box 0 2)] rfl ?_
      refine dl (t := 37) 12 [.c (.box 0 2)] rfl ?_
      obtain ⟨v5, k6, h⟩ := bindE h
      refine dl (t := 38) 13 [.c (.box 0 (2 + 0 * 7 + v5 * 1))] rfl ?_
      obtain ⟨v6, k7, h⟩ := bindE h
      refine d_storeG (cs' := [.pv (.int .i64 x1.2.N), .pv (.bool x1.2.None), .pv (.int .i64 ((v6 0) 0)), .pv (.int .i64 ((v6 0) 1)), .pv (.int .i64 ((v6 0) 2)), .pv (.int .i64 ((v6 0) 3)), .pv (.int .i64 ((v6 0) 4)), .pv (.int .i64 ((v6 0) 5)), .pv (.int .i64 ((v6 0) 6)), .pv (.int .i64 ((v6 1) 0)), .pv (.int .i64 ((v6 1) 1)), .pv (.int .i64 ((v6 1) 2)), .pv (.int .i64 ((v6 1) 3)), .pv (.int .i64 ((v6 1) 4)), .pv (.int .i64 ((v6 1) 5)), .pv (.int .i64 ((v6 1) 6)), .pv (.int .i64 ((v6 2) 0)), .pv (.int .i64 ((v6 2) 1)), .pv (.int .i64 ((v6 2) 2)), .pv (.int .i64 ((v6 2) 3)), .pv (.int .i64 ((v6 2) 4)), .pv (.int .i64 ((v6 2) 5)), .pv (.int .i64 ((v6 2) 6)), .pv (.int .i64 ((v6 3) 0)), .pv (.int .i64 ((v6 3) 1)), .pv (.int .i64 ((v6 3) 2)), .pv (.int .i64 ((v6 3) 3)), .pv (.int .i64 ((v6 3) 4)), .pv (.int .i64 ((v6 3) 5)), .pv (.int .i64 ((v6 3) 6)), .pv (.int .i64 ((v6 4) 0)), .pv (.int .i64 ((v6 4) 1)), .pv (.int .i64 ((v6 4) 2)), .pv (.int .i64 ((v6 4) 3)), .pv (.int .i64 ((v6 4) 4)), .pv (.int .i64 ((v6 4) 5)), .pv (.int .i64 ((v6 4) 6)), .pv (.int .i64 ((v6 5) 0)), .pv (.int .i64 ((v6 5) 1)), .pv (.int .i64 ((v6 5) 2)), .pv (.int .i64 ((v6 5) 3)), .pv (.int .i64 ((v6 5) 4)), .pv (.int .i64 ((v6 5) 5)), .pv (.int .i64 ((v6 5) 6)), .pv (.int .i64 ((v6 6) 0)), .pv (.int .i64 ((v6 6) 1)), .pv (.int .i64 ((v6 6) 2)), .pv (.int .i64 ((v6 6) 3)), .pv (.int .i64 ((v6 6) 4)), .pv (.int .i64 ((v6 6) 5)), .pv (.int .i64 ((v6 6) 6))]) (wm [0, 0, 0, 0, 4, 20, 52, 124, 252, 508, 1, 1025, 3073, 8191, 16383]) 14 rfl (by kernel_rfl) (by kernel_rfl) (by kernel_rfl) (by kernel_rfl) (by kernel_rfl) (gi0 rfl) (oL [] rfl (by kernel_rfl) (fl_lt (ia_boxD rfl u41 ty3 rfl rfl k6)) (oL [] rfl (by kernel_rfl) (fl_lt (ia_box rfl u42 ty41 rfl rfl rfl 2 rfl)) (oE tbok [] 2 (by kernel_rfl) (oL [] rfl (by kernel_rfl) (fl_lt (lt_min2 rfl rfl rfl)) (oL [] rfl (by kernel_rfl) (fl_lt (lt_load_box rfl ty3 rfl rfl (at2 (e := (PV.int .i64)) (D2 := v3) (pre := [.int .i64 x1.2.N, .bool x1.2.None]) (post := []) (n1 := 7) (n2 := 7) (by kernel_rfl) (by decide) (inA_lt k5)))) (oL [] rfl (by kernel_rfl) (fl_lt (ia_boxD rfl u41 ty3 rfl rfl k5)) (oL [] rfl (by kernel_rfl) (fl_lt (ia_box rfl u42 ty41 rfl rfl rfl 2 rfl)) (oE tbok [] 6 (by kernel_rfl) trivial)))))))) rfl rfl ty3 rfl rfl rfl rfl rfl (fit2 (e := (PV.int .i64)) (D2 := v3) (pre := [.int .i64 x1.2.N, .bool x1.2.None]) (post := []) (n1 := 7) (n2 := 7) (by kernel_rfl) (by decide) (inA_lt k6)) (put2 (e := (PV.int .i64)) (D2 := v3) (pre := [.int .i64 x1.2.N, .bool x1.2.None]) (post := []) (n1 := 7) (n2 := 7) (by kernel_rfl) (by decide) (inA_lt k6) (retE k7) (by kernel_rfl)) (SetAt.eq .z) ?_
      refine d_endS (env2 := [(0, [.c (.box 0 0)]), (2, [.c (.pv (.int .i64 x1.1))])]) (wm [0, 0, 0, 0, 4, 20, 52, 124, 252, 508, 1, 1025, 3073, 8191, 16383]) (by kernel_rfl) (by kernel_rfl) (by kernel_rfl) (oN 15 (by kernel_rfl) trivial) (sub_cons rfl (sub_cons rfl sub_nil)) (wB wT) ?_
      refine bN ?_
      refine then_ ?_
      refine region_ ?_
      refine R tbok 3 [2, 0] [(2, [.c (.pv (.int .i64 (IntKind.i64.wrap (x1.1 + 1))))]), (0, [.c (.box 0 0)])] (by kernel_rfl) ?_
      refine ops_nil ?_
      obtain rfl := retE h
      refine lN ?_
      refine w_sub (env' := [(0, [.c (.box 0 0)]), (2, [.c (.pv (.int .i64 (IntKind.i64.wrap (x1.1 + 1))))])]) (sub_cons rfl (sub_cons rfl sub_nil)) ?_
      exact wkE (by kernel_rfl) (by kernel_rfl)
    · have h := iteF h k1
      refine exit_ ?_
      refine tX ?_
      obtain rfl := retE h
      refine lX ?_
      refine w_sub (env' := []) sub_nil ?_
      exact wkE (by kernel_rfl) (by kernel_rfl)
  · cases h
  · have h := elimR h
    obtain rfl := retE h
    refine rwn .nil ?_
    exact wkE (by kernel_rfl) (by kernel_rfl)

theorem zone_none_meets {a0 : Int} {r : zone_Zone} (h : zone_none a0 = some r) : MeetsV Try.prog GG 72 [.c (.pv (.int .i64 a0))] [.agg (bs (e_zone_Zone r))] := by
  refine MeetsS.toV (meetsW_of (st0 := []) (N := 5) r_zone_none o_zone_none r Try.func72 rfl rfl rfl (by dsimp only [argEnv]) rfl ?_) rfl
  unfold zone_none at h
  refine seq_ ?_
  refine region_ ?_
  refine B rfl rfl (bir_alloc rfl z44 rfl rfl) rfl rfl .z ?_
  refine ops_nil ?_
  refine then_ ?_
  refine seq_ ?_
  refine region_ ?_
  refine R tbok 1 [3, 2] [(3, [.c (.pv (.int .i64 a0))]), (2, [.c (.box 0 0)])] (by kernel_rfl) ?_
  refine L rfl rfl (lt_build (cs := (bs (e_zone_Zone (zone_Zone.mk a0 true (arr (arr 0 []) [(arr 0 [0, 0, 0, 0, 0, 0, 0]), (arr 0 [0, 0, 0, 0, 0, 0, 0]), (arr 0 [0, 0, 0, 0, 0, 0, 0]), (arr 0 [0, 0, 0, 0, 0, 0, 0]), (arr 0 [0, 0, 0, 0, 0, 0, 0]), (arr 0 [0, 0, 0, 0, 0, 0, 0]), (arr 0 [0, 0, 0, 0, 0, 0, 0])]))))) rfl st44 rfl (by kernel_rfl)) rfl ?_
  refine S rfl rfl rfl ty44 (by decide) rfl rfl rfl rfl rfl (.all rfl) .z ?_
  refine ops_nil ?_
  refine then_ ?_
  refine ret_ ?_
  obtain rfl := retE h
  refine rwr (rw_ (.cellA (ys := (bs (e_zone_Zone (zone_Zone.mk a0 true (arr (arr 0 []) [(arr 0 [0, 0, 0, 0, 0, 0, 0]), (arr 0 [0, 0, 0, 0, 0, 0, 0]), (arr 0 [0, 0, 0, 0, 0, 0, 0]), (arr 0 [0, 0, 0, 0, 0, 0, 0]), (arr 0 [0, 0, 0, 0, 0, 0, 0]), (arr 0 [0, 0, 0, 0, 0, 0, 0]), (arr 0 [0, 0, 0, 0, 0, 0, 0])]))))) ty44 rfl rfl (by kernel_rfl) (by kernel_rfl) .nil) ?_)
  refine w_none 0 .z ?_
  refine w_cut 0 rfl rfl rfl rfl ?_
  exact wkE (by kernel_rfl) (by kernel_rfl)

theorem zone_Zone_close_meets {a0 : zone_Zone} {r : zone_Zone} (h : zone_Zone_close a0 = some r) : MeetsV Try.prog GG 55 [.agg (bs (e_zone_Zone a0))] [.agg (bs (e_zone_Zone r))] := by
  refine MeetsS.toV (meetsW_of (st0 := []) (N := 77) r_zone_Zone_close o_zone_Zone_close r Try.func55 rfl rfl rfl (by dsimp only [argEnv]) rfl ?_) rfl
  unfold zone_Zone_close at h
  refine seq_ ?_
  refine region_ ?_
  refine B rfl rfl (bir_box rfl rfl rfl) rfl rfl .z ?_
  refine B rfl rfl (bir_alloc rfl z44 rfl rfl) rfl rfl (.s .z) ?_
  refine ops_nil ?_
  refine then_ ?_
  refine seq_ ?_
  refine seq_ ?_
  refine jn_ (fun (j1 : Bool) => (⟨77, 0, [(1, [.c (.box 0 0)]), (2, [.c (.box 1 0)]), (14, [.c (.pv (.bool j1))])], [some (.box true 44 (bs (e_zone_Zone a0))), some (.box true 44 (bs (e_zone_Zone (zone_Zone.mk 0 false (arr (arr 0 []) [(arr 0 [0, 0, 0, 0, 0, 0, 0]), (arr 0 [0, 0, 0, 0, 0, 0, 0]), (arr 0 [0, 0, 0, 0, 0, 0, 0]), (arr 0 [0, 0, 0, 0, 0, 0, 0]), (arr 0 [0, 0, 0, 0, 0, 0, 0]), (arr 0 [0, 0, 0, 0, 0, 0, 0]), (arr 0 [0, 0, 0, 0, 0, 0, 0])])))))]⟩ : Sx)) h wT (fun o h => ?_) (fun j1 h => ?_)
  · refine region_ ?_
    refine R tbok 3 [9, 2, 1] [(9, [.c (.pv (.bool a0.None))]), (2, [.c (.box 1 0)]), (1, [.c (.box 0 0)])] (by kernel_rfl) ?_
    refine (tf a0.None).elim (fun k1 => ?_) (fun k1 => ?_)
    · have h := iteT h k1
      refine Ls0 rfl rfl rfl k1 rfl rfl ?_
      refine Ls0 rfl rfl rfl k1 rfl rfl ?_
      refine Ls0 rfl rfl rfl k1 rfl rfl ?_
      refine Ls0 rfl rfl rfl k1 rfl rfl ?_
      refine L rfl rfl (lt_pickT rfl rfl k1 rfl) rfl ?_
      refine ops_nil ?_
      obtain rfl := retE h
      refine mN ?_
      refine w_sub (env' := [(1, [.c (.box 0 0)]), (2, [.c (.box 1 0)]), (14, [.c (.pv (.bool true))])]) (sub_cons rfl (sub_cons rfl (sub_cons rfl sub_nil))) ?_
      exact wkE (by kernel_rfl) (by kernel_rfl)
    · have h := iteF h k1
      refine Lg rfl rfl rfl k1 rfl (lt_fa_box rfl f44_0 ty3 (by decide) rfl) rfl ?_
      refine Lg rfl rfl rfl k1 rfl (lt_load_box rfl ty3 rfl rfl rfl) rfl ?_
      obtain ⟨v1, k2, h⟩ := bindE h
      refine Hg rfl rfl rfl k1 rfl rfl (op_fl rfl rfl (fl_call rfl Try.call48 rfl (by kernel_rfl) (by kernel_rfl) (zone_count_meets k2)) ?_)
      refine Lg rfl rfl rfl k1 rfl (lt_not rfl rfl) rfl ?_
      refine L rfl rfl (lt_pickF rfl rfl k1 rfl) rfl ?_
      refine ops_nil ?_
      obtain rfl := retE h
      refine mN ?_
      refine w_sub (env' := [(1, [.c (.box 0 0)]), (2, [.c (.box 1 0)]), (14, [.c (.pv (.bool (!v1)))])]) (sub_cons rfl (sub_cons rfl (sub_cons rfl sub_nil))) ?_
      exact wkE (by kernel_rfl) (by kernel_rfl)
  · refine then_ ?_
    refine cond_ (b := j1) rfl (fun k3 => ?_) (fun k3 => ?_)
    · have h := iteT h k3
      refine seq_ ?_
      refine region_ ?_
      refine R tbok 1 [15, 1, 2] [(15, [.agg (bs (e_zone_Zone a0))]), (1, [.c (.box 0 0)]), (2, [.c (.box 1 0)])] (by kernel_rfl) ?_
      refine S rfl rfl rfl ty44 (by decide) rfl rfl rfl rfl rfl (.all rfl) (.s .z) ?_
      refine ops_nil ?_
      refine then_ ?_
      refine ret_ ?_
      obtain rfl := retE h
      refine tR (rwr (rw_ (.cellA (ys := (bs (e_zone_Zone a0))) ty44 rfl rfl (by kernel_rfl) (by kernel_rfl) .nil) ?_))
      refine w_none 0 .z ?_
      refine w_none 1 (.s .z) ?_
      refine w_cut 0 rfl rfl rfl rfl ?_
      exact wkE (by kernel_rfl) (by kernel_rfl)
    · have h := iteF h k3
      refine skip_ ?_
      refine then_ ?_
      refine seq_ ?_
      refine region_ ?_
      obtain ⟨v2, k4, h⟩ := bindE h
      refine callS (env' := [(1, [.c (.box 0 0)]), (2, [.c (.box 1 0)]), (14, [.c (.pv (.bool j1))])]) (argsX' := []) (st' := [some (.box true 44 (bs (e_zone_Zone v2))), some (.box true 44 (bs (e_zone_Zone (zone_Zone.mk 0 false (arr (arr 0 []) [(arr 0 [0, 0, 0, 0, 0, 0, 0]), (arr 0 [0, 0, 0, 0, 0, 0, 0]), (arr 0 [0, 0, 0, 0, 0, 0, 0]), (arr 0 [0, 0, 0, 0, 0, 0, 0]), (arr 0 [0, 0, 0, 0, 0, 0, 0]), (arr 0 [0, 0, 0, 0, 0, 0, 0]), (arr 0 [0, 0, 0, 0, 0, 0, 0])])))))]) [0] [] rfl rfl rfl rfl Try.call71 rfl rfl (by kernel_rfl) (by kernel_rfl) (zone_Zone_own_meets k4) (by kernel_rfl) (by kernel_rfl) (by kernel_rfl) ?_
      refine ops_nil ?_
      refine then_ ?_
      refine seq_ ?_
      refine seq_ ?_
      refine region_ ?_
      refine R tbok 1 [3, 1, 2] [(3, [.c (.pv (.int .i64 0))]), (1, [.c (.box 0 0)]), (2, [.c (.box 1 0)])] (by kernel_rfl) ?_
      refine ops_nil ?_
      refine then_ ?_
      refine lp_ (Qr := RW Try.prog GG Try.f55 0 r_zone_Zone_close o_zone_Zone_close) (zone_Zone_close_l2) (fun (x2 : (Int × zone_Zone)) => (⟨77, 0, [(1, [.c (.box 0 0)]), (2, [.c (.box 1 0)]), (3, [.c (.pv (.int .i64 x2.1))])], [some (.box true 44 (bs (e_zone_Zone x2.2))), some (.box true 44 (bs (e_zone_Zone (zone_Zone.mk 0 false (arr (arr 0 []) [(arr 0 [0, 0, 0, 0, 0, 0, 0]), (arr 0 [0, 0, 0, 0, 0, 0, 0]), (arr 0 [0, 0, 0, 0, 0, 0, 0]), (arr 0 [0, 0, 0, 0, 0, 0, 0]), (arr 0 [0, 0, 0, 0, 0, 0, 0]), (arr 0 [0, 0, 0, 0, 0, 0, 0]), (arr 0 [0, 0, 0, 0, 0, 0, 0])])))))]⟩ : Sx)) (fun (j2 : zone_Zone) => (⟨77, 0, [(1, [.c (.box 0 0)]), (2, [.c (.box 1 0)])], [some (.box true 44 (bs (e_zone_Zone j2))), some (.box true 44 (bs (e_zone_Zone (zone_Zone.mk 0 false (arr (arr 0 []) [(arr 0 [0, 0, 0, 0, 0, 0, 0]), (arr 0 [0, 0, 0, 0, 0, 0, 0]), (arr 0 [0, 0, 0, 0, 0, 0, 0]), (arr 0 [0, 0, 0, 0, 0, 0, 0]), (arr 0 [0, 0, 0, 0, 0, 0, 0]), (arr 0 [0, 0, 0, 0, 0, 0, 0]), (arr 0 [0, 0, 0, 0, 0, 0, 0])])))))]⟩ : Sx)) (0, v2) RW.only h wT ?_ (fun x2 o h => ?_) (fun r h s' hs => ?_) (fun j2 h => ?_)
      · refine w_sub (env' := [(1, [.c (.box 0 0)]), (2, [.c (.box 1 0)]), (3, [.c (.pv (.int .i64 0))])]) (sub_cons rfl (sub_cons rfl (sub_cons rfl sub_nil))) ?_
        exact wkE (by kernel_rfl) (by kernel_rfl)
      · unfold zone_Zone_close_l2 at h
        refine seq_ ?_
        refine seq_ ?_
        refine region_ ?_
        refine R tbok 4 [20, 1, 2, 3] [(20, [.c (.pv (.bool (decide (x2.1 ≤ x2.2.N))))]), (1, [.c (.box 0 0)]), (2, [.c (.box 1 0)]), (3, [.c (.pv (.int .i64 x2.1))])] (by kernel_rfl) ?_
        refine ops_nil ?_
        refine then_ ?_
        refine cond_ (b := (decide (x2.1 ≤ x2.2.N))) rfl (fun k5 => ?_) (fun k5 => ?_)
        · have h := iteT h k5
          refine skip_ ?_
          refine then_ ?_
          refine seq_ ?_
          refine block_ ?_
          refine seq_ ?_
          refine region_ ?_
          refine R tbok 1 [4, 1, 2, 3] [(4, [.c (.pv (.int .i64 0))]), (1, [.c (.box 0 0)]), (2, [.c (.box 1 0)]), (3, [.c (.pv (.int .i64 x2.1))])] (by kernel_rfl) ?_
          refine ops_nil ?_
          refine then_ ?_
          refine lp_ (Qr := RW Try.prog GG Try.f55 0 r_zone_Zone_close o_zone_Zone_close) (zone_Zone_close_l3 x2) (fun (x3 : (Int × zone_Zone)) => (⟨77, 0, [(1, [.c (.box 0 0)]), (2, [.c (.box 1 0)]), (3, [.c (.pv (.int .i64 x2.1))]), (4, [.c (.pv (.int .i64 x3.1))])], [some (.box true 44 (bs (e_zone_Zone x3.2))), some (.box true 44 (bs (e_zone_Zone (zone_Zone.mk 0 false (arr (arr 0 []) [(arr 0 [0, 0, 0, 0, 0, 0, 0]), (arr 0 [0, 0, 0, 0, 0, 0, 0]), (arr 0 [0, 0, 0, 0, 0, 0, 0]), (arr 0 [0, 0, 0, 0, 0, 0, 0]), (arr 0 [0, 0, 0, 0, 0, 0, 0]), (arr 0 [0, 0, 0, 0, 0, 0, 0]), (arr 0 [0, 0, 0, 0, 0, 0, 0])])))))]⟩ : Sx)) (fun (j3 : zone_Zone) => (⟨77, 0, [(1, [.c (.box 0 0)]), (2, [.c (.box 1 0)]), (3, [.c (.pv (.int .i64 x2.1))])], [some (.box true 44 (bs (e_zone_Zone j3))), some (.box true 44 (bs (e_zone_Zone (zone_Zone.mk 0 false (arr (arr 0 []) [(arr 0 [0, 0, 0, 0, 0, 0, 0]), (arr 0 [0, 0, 0, 0, 0, 0, 0]), (arr 0 [0, 0, 0, 0, 0, 0, 0]), (arr 0 [0, 0, 0, 0, 0, 0, 0]), (arr 0 [0, 0, 0, 0, 0, 0, 0]), (arr 0 [0, 0, 0, 0, 0, 0, 0]), (arr 0 [0, 0, 0, 0, 0, 0, 0])])))))]⟩ : Sx)) (0, x2.2) RW.only h (wB wT) ?_ (fun x3 o h => ?_) (fun r h s' hs => ?_) (fun j3 h => ?_)
          · refine w_sub (env' := [(1, [.c (.box 0 0)]), (2, [.c (.box 1 0)]), (3, [.c (.pv (.int .i64 x2.1))]), (4, [.c (.pv (.int .i64 0))])]) (sub_cons rfl (sub_cons rfl (sub_cons rfl (sub_cons rfl sub_nil)))) ?_
            exact wkE (by kernel_rfl) (by kernel_rfl)
          · unfold zone_Zone_close_l3 at h
            refine seq_ ?_
            refine seq_ ?_
            refine region_ ?_
            refine R tbok 4 [26, 1, 2, 3, 4] [(26, [.c (.pv (.bool (decide (x3.1 ≤ x3.2.N))))]), (1, [.c (.box 0 0)]), (2, [.c (.box 1 0)]), (3, [.c (.pv (.int .i64 x2.1))]), (4, [.c (.pv (.int .i64 x3.1))])] (by kernel_rfl) ?_
            refine ops_nil ?_
            refine then_ ?_
            refine cond_ (b := (decide (x3.1 ≤ x3.2.N))) rfl (fun k6 => ?_) (fun k6 => ?_)
            · have h := iteT h k6
              refine skip_ ?_
              refine then_ ?_
              refine seq_ ?_
              refine block_ ?_
              refine seq_ ?_
              refine region_ ?_
              refine R tbok 1 [5, 1, 2, 3, 4] [(5, [.c (.pv (.int .i64 0))]), (1, [.c (.box 0 0)]), (2, [.c (.box 1 0)]), (3, [.c (.pv (.int .i64 x2.1))]), (4, [.c (.pv (.int .i64 x3.1))])] (by kernel_rfl) ?_
              refine ops_nil ?_
              refine then_ ?_
              refine lp_ (Qr := RW Try.prog GG Try.f55 0 r_zone_Zone_close o_zone_Zone_close) (zone_Zone_close_l4 x2 x3) (fun (x4 : (Int × zone_Zone)) => (⟨77, 0, [(1, [.c (.box 0 0)]), (2, [.c (.box 1 0)]), (3, [.c (.pv (.int .i64 x2.1))]), (4, [.c (.pv (.int .i64 x3.1))]), (5, [.c (.pv (.int .i64 x4.1))])], [some (.box true 44 (bs (e_zone_Zone x4.2))), some (.box true 44 (bs (e_zone_Zone (zone_Zone.mk 0 false (arr (arr 0 []) [(arr 0 [0, 0, 0, 0, 0, 0, 0]), (arr 0 [0, 0, 0, 0, 0, 0, 0]), (arr 0 [0, 0, 0, 0, 0, 0, 0]), (arr 0 [0, 0, 0, 0, 0, 0, 0]), (arr 0 [0, 0, 0, 0, 0, 0, 0]), (arr 0 [0, 0, 0, 0, 0, 0, 0]), (arr 0 [0, 0, 0, 0, 0, 0, 0])])))))]⟩ : Sx)) (fun (j4 : zone_Zone) => (⟨77, 0, [(1, [.c (.box 0 0)]), (2, [.c (.box 1 0)]), (3, [.c (.pv (.int .i64 x2.1))]), (4, [.c (.pv (.int .i64 x3.1))])], [some (.box true 44 (bs (e_zone_Zone j4))), some (.box true 44 (bs (e_zone_Zone (zone_Zone.mk 0 false (arr (arr 0 []) [(arr 0 [0, 0, 0, 0, 0, 0, 0]), (arr 0 [0, 0, 0, 0, 0, 0, 0]), (arr 0 [0, 0, 0, 0, 0, 0, 0]), (arr 0 [0, 0, 0, 0, 0, 0, 0]), (arr 0 [0, 0, 0, 0, 0, 0, 0]), (arr 0 [0, 0, 0, 0, 0, 0, 0]), (arr 0 [0, 0, 0, 0, 0, 0, 0])])))))]⟩ : Sx)) (0, x3.2) RW.only h (wB wT) ?_ (fun x4 o h => ?_) (fun r h s' hs => ?_) (fun j4 h => ?_)
              · refine w_sub (env' := [(1, [.c (.box 0 0)]), (2, [.c (.box 1 0)]), (3, [.c (.pv (.int .i64 x2.1))]), (4, [.c (.pv (.int .i64 x3.1))]), (5, [.c (.pv (.int .i64 0))])]) (sub_cons rfl (sub_cons rfl (sub_cons rfl (sub_cons rfl (sub_cons rfl sub_nil))))) ?_
                exact wkE (by kernel_rfl) (by kernel_rfl)
              · unfold zone_Zone_close_l4 at h
                refine seq_ ?_
                refine seq_ ?_
                refine region_ ?_
                refine R tbok 4 [32, 1, 2, 3, 4, 5] [(32, [.c (.pv (.bool (decide (x4.1 ≤ x4.2.N))))]), (1, [.c (.box 0 0)]), (2, [.c (.box 1 0)]), (3, [.c (.pv (.int .i64 x2.1))]), (4, [.c (.pv (.int .i64 x3.1))]), (5, [.c (.pv (.int .i64 x4.1))])] (by kernel_rfl) ?_
                refine ops_nil ?_
                refine then_ ?_
                refine cond_ (b := (decide (x4.1 ≤ x4.2.N))) rfl (fun k7 => ?_) (fun k7 => ?_)
                · have h := iteT h k7
                  refine skip_ ?_
                  refine then_ ?_
                  refine seq_ ?_
                  refine block_ ?_
                  refine drawn_ mixed ?_
                  refine dl (t := 35) 0 [.c (.pv (.int .i64 x3.1))] rfl ?_
                  refine dl (t := 36) 1 [.c (.pv (.int .i64 x4.1))] rfl ?_
                  refine dl (t := 37) 2 [.c (.pv (.int .i64 x3.1))] rfl ?_
                  refine dl (t := 38) 3 [.c (.pv (.int .i64 x4.1))] rfl ?_
                  refine dl (t := 39) 4 [.c (.box 0 2)] rfl ?_
                  obtain ⟨v3, k8, h⟩ := bindE h
                  refine dl (t := 40) 5 [.c (.box 0 (2 + v3 * 7))] rfl ?_
                  obtain ⟨v4, k9, h⟩ := bindE h
                  refine dl (t := 41) 6 [.c (.box 0 (2 + v3 * 7 + v4 * 1))] rfl ?_
                  refine dl (t := 42) 7 [.c (.pv (.int .i64 ((x4.2.D v3) v4)))] rfl ?_
                  refine dl (t := 43) 8 [.c (.pv (.int .i64 x3.1))] rfl ?_
                  refine dl (t := 44) 9 [.c (.pv (.int .i64 x2.1))] rfl ?_
                  refine dl (t := 45) 10 [.c (.box 0 2)] rfl ?_
                  obtain ⟨v5, k10, h⟩ := bindE h
                  refine dl (t := 46) 11 [.c (.box 0 (2 + v5 * 7))] rfl ?_
                  obtain ⟨v6, k11, h⟩ := bindE h
                  refine dl (t := 47) 12 [.c (.box 0 (2 + v5 * 7 + v6 * 1))] rfl ?_
                  refine dl (t := 48) 13 [.c (.pv (.int .i64 ((x4.2.D v5) v6)))] rfl ?_
                  refine dl (t := 49) 14 [.c (.pv (.int .i64 x2.1))] rfl ?_
                  refine dl (t := 50) 15 [.c (.pv (.int .i64 x4.1))] rfl ?_
                  refine dl (t := 51) 16 [.c (.box 0 2)] rfl ?_
                  obtain ⟨v7, k12, h⟩ := bindE h
                  refine dl (t := 52) 17 [.c (.box 0 (2 + v7 * 7))] rfl ?_
                  obtain ⟨v8, k13, h⟩ := bindE h
                  refine dl (t := 53) 18 [.c (.box 0 (2 + v7 * 7 + v8 * 1))] rfl ?_
                  refine dl (t := 54) 19 [.c (.pv (.int .i64 ((x4.2.D v7) v8)))] rfl ?_
                  refine dl (t := 55) 20 [.c (.pv (.int .i64 (IntKind.i64.wrap (((x4.2.D v5) v6) + ((x4.2.D v7) v8)))))] rfl ?_
                  refine dl (t := 56) 21 [.c (.pv (.int .i64 (min ((x4.2.D v3) v4) (IntKind.i64.wrap (((x4.2.D v5) v6) + ((x4.2.D v7) v8))))))] rfl ?_
                  refine dl (t := 57) 22 [.c (.box 0 2)] rfl ?_
                  obtain ⟨v9, k14, h⟩ := bindE h
                  refine dl (t := 58) 23 [.c (.box 0 (2 + v9 * 7))] rfl ?_
                  obtain ⟨v10, k15, h⟩ := bindE h
                  refine dl (t := 59) 24 [.c (.box 0 (2 + v9 * 7 + v10 * 1))] rfl ?_
                  obtain ⟨v11, k16, h⟩ := bindE h
                  refine d_storeG (cs' := [.pv (.int .i64 x4.2.N), .pv (.bool x4.2.None), .pv (.int .i64 ((v11 0) 0)), .pv (.int .i64 ((v11 0) 1)), .pv (.int .i64 ((v11 0) 2)), .pv (.int .i64 ((v11 0) 3)), .pv (.int .i64 ((v11 0) 4)), .pv (.int .i64 ((v11 0) 5)), .pv (.int .i64 ((v11 0) 6)), .pv (.int .i64 ((v11 1) 0)), .pv (.int .i64 ((v11 1) 1)), .pv (.int .i64 ((v11 1) 2)), .pv (.int .i64 ((v11 1) 3)), .pv (.int .i64 ((v11 1) 4)), .pv (.int .i64 ((v11 1) 5)), .pv (.int .i64 ((v11 1) 6)), .pv (.int .i64 ((v11 2) 0)), .pv (.int .i64 ((v11 2) 1)), .pv (.int .i64 ((v11 2) 2)), .pv (.int .i64 ((v11 2) 3)), .pv (.int .i64 ((v11 2) 4)), .pv (.int .i64 ((v11 2) 5)), .pv (.int .i64 ((v11 2) 6)), .pv (.int .i64 ((v11 3) 0)), .pv (.int .i64 ((v11 3) 1)), .pv (.int .i64 ((v11 3) 2)), .pv (.int .i64 ((v11 3) 3)), .pv (.int .i64 ((v11 3) 4)), .pv (.int .i64 ((v11 3) 5)), .pv (.int .i64 ((v11 3) 6)), .pv (.int .i64 ((v11 4) 0)), .pv (.int .i64 ((v11 4) 1)), .pv (.int .i64 ((v11 4) 2)), .pv (.int .i64 ((v11 4) 3)), .pv (.int .i64 ((v11 4) 4)), .pv (.int .i64 ((v11 4) 5)), .pv (.int .i64 ((v11 4) 6)), .pv (.int .i64 ((v11 5) 0)), .pv (.int .i64 ((v11 5) 1)), .pv (.int .i64 ((v11 5) 2)), .pv (.int .i64 ((v11 5) 3)), .pv (.int .i64 ((v11 5) 4)), .pv (.int .i64 ((v11 5) 5)), .pv (.int .i64 ((v11 5) 6)), .pv (.int .i64 ((v11 6) 0)), .pv (.int .i64 ((v11 6) 1)), .pv (.int .i64 ((v11 6) 2)), .pv (.int .i64 ((v11 6) 3)), .pv (.int .i64 ((v11 6) 4)), .pv (.int .i64 ((v11 6) 5)), .pv (.int .i64 ((v11 6) 6))]) (wm [0, 0, 0, 0, 0, 20, 60, 124, 0, 0, 0, 1280, 3840, 7936, 0, 0, 0, 81920, 245760, 507904, 1048320, 2097148, 0, 4194305, 16777215, 33554431]) 25 rfl (by kernel_rfl) (by kernel_rfl) (by kernel_rfl) (by kernel_rfl) (by kernel_rfl) (gi0 rfl) (oL [] rfl (by kernel_rfl) (fl_lt (ia_boxD rfl u41 ty3 rfl rfl k15)) (oL [] rfl (by kernel_rfl) (fl_lt (ia_boxD rfl u42 ty41 rfl rfl k14)) (oE tbok [] 1 (by kernel_rfl) (oL [] rfl (by kernel_rfl) (fl_lt (lt_min2 rfl rfl rfl)) (oE tbok [] 1 (by kernel_rfl) (oL [] rfl (by kernel_rfl) (fl_lt (lt_load_box rfl ty3 rfl rfl (at2 (e := (PV.int .i64)) (D2 := x4.2.D) (pre := [.int .i64 x4.2.N, .bool x4.2.None]) (post := []) (n1 := 7) (n2 := 7) (by kernel_rfl) (inA_lt k12) (inA_lt k13)))) (oL [] rfl (by kernel_rfl) (fl_lt (ia_boxD rfl u41 ty3 rfl rfl k13)) (oL [] rfl (by kernel_rfl) (fl_lt (ia_boxD rfl u42 ty41 rfl rfl k12)) (oE tbok [] 3 (by kernel_rfl) (oL [] rfl (by kernel_rfl) (fl_lt (lt_load_box rfl ty3 rfl rfl (at2 (e := (PV.int .i64)) (D2 := x4.2.D) (pre := [.int .i64 x4.2.N, .bool x4.2.None]) (post := []) (n1 := 7) (n2 := 7) (by kernel_rfl) (inA_lt k10) (inA_lt k11)))) (oL [] rfl (by kernel_rfl) (fl_lt (ia_boxD rfl u41 ty3 rfl rfl k11)) (oL [] rfl (by kernel_rfl) (fl_lt (ia_boxD rfl u42 ty41 rfl rfl k10)) (oE tbok [] 3 (by kernel_rfl) (oL [] rfl (by kernel_rfl) (fl_lt (lt_load_box rfl ty3 rfl rfl (at2 (e := (PV.int .i64)) (D2 := x4.2.D) (pre := [.int .i64 x4.2.N, .bool x4.2.None]) (post := []) (n1 := 7) (n2 := 7) (by kernel_rfl) (inA_lt k8) (inA_lt k9)))) (oL [] rfl (by kernel_rfl) (fl_lt (ia_boxD rfl u41 ty3 rfl rfl k9)) (oL [] rfl (by kernel_rfl) (fl_lt (ia_boxD rfl u42 ty41 rfl rfl k8)) (oE tbok [] 5 (by kernel_rfl) trivial))))))))))))))))) rfl rfl ty3 rfl rfl rfl rfl rfl (fit2 (e := (PV.int .i64)) (D2 := x4.2.D) (pre := [.int .i64 x4.2.N, .bool x4.2.None]) (post := []) (n1 := 7) (n2 := 7) (by kernel_rfl) (inA_lt k14) (inA_lt k15)) (put2 (e := (PV.int .i64)) (D2 := x4.2.D) (pre := [.int .i64 x4.2.N, .bool x4.2.None]) (post := []) (n1 := 7) (n2 := 7) (by kernel_rfl) (inA_lt k14) (inA_lt k15) (retE k16) (by kernel_rfl)) (SetAt.eq .z) ?_
                  refine d_endS (env2 := [(1, [.c (.box 0 0)]), (2, [.c (.box 1 0)]), (3, [.c (.pv (.int .i64 x2.1))]), (4, [.c (.pv (.int .i64 x3.1))]), (5, [.c (.pv (.int .i64 x4.1))])]) (wm [0, 0, 0, 0, 0, 20, 60, 124, 0, 0, 0, 1280, 3840, 7936, 0, 0, 0, 81920, 245760, 507904, 1048320, 2097148, 0, 4194305, 16777215, 33554431]) (by kernel_rfl) (by kernel_rfl) (by kernel_rfl) (oN 26 (by kernel_rfl) trivial) (sub_cons rfl (sub_cons rfl (sub_cons rfl (sub_cons rfl (sub_cons rfl sub_nil))))) (wB wT) ?_
                  refine bN ?_
                  refine then_ ?_
                  refine region_ ?_
                  refine R tbok 3 [5, 1, 2, 3, 4] [(5, [.c (.pv (.int .i64 (IntKind.i64.wrap (x4.1 + 1))))]), (1, [.c (.box 0 0)]), (2, [.c (.box 1 0)]), (3, [.c (.pv (.int .i64 x2.1))]), (4, [.c (.pv (.int .i64 x3.1))])] (by kernel_rfl) ?_
                  refine ops_nil ?_
                  obtain rfl := retE h
                  refine lN ?_
                  refine w_sub (env' := [(1, [.c (.box 0 0)]), (2, [.c (.box 1 0)]), (3, [.c (.pv (.int .i64 x2.1))]), (4, [.c (.pv (.int .i64 x3.1))]), (5, [.c (.pv (.int .i64 (IntKind.i64.wrap (x4.1 + 1))))])]) (sub_cons rfl (sub_cons rfl (sub_cons rfl (sub_cons rfl (sub_cons rfl sub_nil))))) ?_
                  exact wkE (by kernel_rfl) (by kernel_rfl)
                · have h := iteF h k7
                  refine exit_ ?_
                  refine tX ?_
                  obtain rfl := retE h
                  refine lX ?_
                  refine w_sub (env' := [(1, [.c (.box 0 0)]), (2, [.c (.box 1 0)]), (3, [.c (.pv (.int .i64 x2.1))]), (4, [.c (.pv (.int .i64 x3.1))])]) (sub_cons rfl (sub_cons rfl (sub_cons rfl (sub_cons rfl sub_nil)))) ?_
                  exact wkE (by kernel_rfl) (by kernel_rfl)
              · cases h
              · have h := elimR h
                refine bN ?_
                refine then_ ?_
                refine region_ ?_
                refine R tbok 3 [4, 1, 2, 3] [(4, [.c (.pv (.int .i64 (IntKind.i64.wrap (x3.1 + 1))))]), (1, [.c (.box 0 0)]), (2, [.c (.box 1 0)]), (3, [.c (.pv (.int .i64 x2.1))])] (by kernel_rfl) ?_
                refine ops_nil ?_
                obtain rfl := retE h
                refine lN ?_
                refine w_sub (env' := [(1, [.c (.box 0 0)]), (2, [.c (.box 1 0)]), (3, [.c (.pv (.int .i64 x2.1))]), (4, [.c (.pv (.int .i64 (IntKind.i64.wrap (x3.1 + 1))))])]) (sub_cons rfl (sub_cons rfl (sub_cons rfl (sub_cons rfl sub_nil)))) ?_
                exact wkE (by kernel_rfl) (by kernel_rfl)
            · have h := iteF h k6
              refine exit_ ?_
              refine tX ?_
              obtain rfl := retE h
              refine lX ?_
              refine w_sub (env' := [(1, [.c (.box 0 0)]), (2, [.c (.box 1 0)]), (3, [.c (.pv (.int .i64 x2.1))])]) (sub_cons rfl (sub_cons rfl (sub_cons rfl sub_nil))) ?_
              exact wkE (by kernel_rfl) (by kernel_rfl)
          · cases h
          · have h := elimR h
            refine bN ?_
            refine then_ ?_
            refine region_ ?_
            refine R tbok 3 [3, 1, 2] [(3, [.c (.pv (.int .i64 (IntKind.i64.wrap (x2.1 + 1))))]), (1, [.c (.box 0 0)]), (2, [.c (.box 1 0)])] (by kernel_rfl) ?_
            refine ops_nil ?_
            obtain rfl := retE h
            refine lN ?_
            refine w_sub (env' := [(1, [.c (.box 0 0)]), (2, [.c (.box 1 0)]), (3, [.c (.pv (.int .i64 (IntKind.i64.wrap (x2.1 + 1))))])]) (sub_cons rfl (sub_cons rfl (sub_cons rfl sub_nil))) ?_
            exact wkE (by kernel_rfl) (by kernel_rfl)
        · have h := iteF h k5
          refine exit_ ?_
          refine tX ?_
          obtain rfl := retE h
          refine lX ?_
          refine w_sub (env' := [(1, [.c (.box 0 0)]), (2, [.c (.box 1 0)])]) (sub_cons rfl (sub_cons rfl sub_nil)) ?_
          exact wkE (by kernel_rfl) (by kernel_rfl)
      · cases h
      · have h := elimR h
        refine then_ ?_
        refine seq_ ?_
        refine seq_ ?_
        refine region_ ?_
        refine R tbok 1 [6, 1, 2] [(6, [.c (.pv (.int .i64 0))]), (1, [.c (.box 0 0)]), (2, [.c (.box 1 0)])] (by kernel_rfl) ?_
        refine ops_nil ?_
        refine then_ ?_
        refine lp_ (Qr := RW Try.prog GG Try.f55 0 r_zone_Zone_close o_zone_Zone_close) (zone_Zone_close_l5 j2) (fun (x5 : Int) => (⟨77, 0, [(1, [.c (.box 0 0)]), (2, [.c (.box 1 0)]), (6, [.c (.pv (.int .i64 x5))])], [some (.box true 44 (bs (e_zone_Zone j2))), some (.box true 44 (bs (e_zone_Zone (zone_Zone.mk 0 false (arr (arr 0 []) [(arr 0 [0, 0, 0, 0, 0, 0, 0]), (arr 0 [0, 0, 0, 0, 0, 0, 0]), (arr 0 [0, 0, 0, 0, 0, 0, 0]), (arr 0 [0, 0, 0, 0, 0, 0, 0]), (arr 0 [0, 0, 0, 0, 0, 0, 0]), (arr 0 [0, 0, 0, 0, 0, 0, 0]), (arr 0 [0, 0, 0, 0, 0, 0, 0])])))))]⟩ : Sx)) (fun (j5 : Unit) => (⟨77, 0, [(1, [.c (.box 0 0)]), (2, [.c (.box 1 0)])], [some (.box true 44 (bs (e_zone_Zone j2))), some (.box true 44 (bs (e_zone_Zone (zone_Zone.mk 0 false (arr (arr 0 []) [(arr 0 [0, 0, 0, 0, 0, 0, 0]), (arr 0 [0, 0, 0, 0, 0, 0, 0]), (arr 0 [0, 0, 0, 0, 0, 0, 0]), (arr 0 [0, 0, 0, 0, 0, 0, 0]), (arr 0 [0, 0, 0, 0, 0, 0, 0]), (arr 0 [0, 0, 0, 0, 0, 0, 0]), (arr 0 [0, 0, 0, 0, 0, 0, 0])])))))]⟩ : Sx)) 0 RW.only h wT ?_ (fun x5 o h => ?_) (fun r h s' hs => ?_) (fun j5 h => ?_)
        · refine w_sub (env' := [(1, [.c (.box 0 0)]), (2, [.c (.box 1 0)]), (6, [.c (.pv (.int .i64 0))])]) (sub_cons rfl (sub_cons rfl (sub_cons rfl sub_nil))) ?_
          exact wkE (by kernel_rfl) (by kernel_rfl)
        · unfold zone_Zone_close_l5 at h
          refine seq_ ?_
          refine seq_ ?_
          refine region_ ?_
          refine R tbok 4 [63, 1, 2, 6] [(63, [.c (.pv (.bool (decide (x5 ≤ j2.N))))]), (1, [.c (.box 0 0)]), (2, [.c (.box 1 0)]), (6, [.c (.pv (.int .i64 x5))])] (by kernel_rfl) ?_
          refine ops_nil ?_
          refine then_ ?_
          refine cond_ (b := (decide (x5 ≤ j2.N))) rfl (fun k17 => ?_) (fun k17 => ?_)
          · have h := iteT h k17
            refine skip_ ?_
            refine then_ ?_
            refine seq_ ?_
            refine block_ ?_
            refine seq_ ?_
            refine region_ ?_
            refine R tbok 3 [68, 67, 66, 1, 2, 6] [(68, [.c (.box 0 2)]), (67, [.c (.pv (.int .i64 x5))]), (66, [.c (.pv (.int .i64 x5))]), (1, [.c (.box 0 0)]), (2, [.c (.box 1 0)]), (6, [.c (.pv (.int .i64 x5))])] (by kernel_rfl) ?_
            obtain ⟨v12, k18, h⟩ := bindE h
            refine L rfl rfl (ia_boxD rfl u42 ty41 rfl rfl k18) rfl ?_
            obtain ⟨v13, k19, h⟩ := bindE h
            refine L rfl rfl (ia_boxD rfl u41 ty3 rfl rfl k19) rfl ?_
            refine L rfl rfl (lt_load_box rfl ty3 rfl rfl (at2 (e := (PV.int .i64)) (D2 := j2.D) (pre := [.int .i64 j2.N, .bool j2.None]) (post := []) (n1 := 7) (n2 := 7) (by kernel_rfl) (inA_lt k18) (inA_lt k19))) rfl ?_
            refine R tbok 1 [72, 1, 2, 6] [(72, [.c (.pv (.bool (decide (((j2.D v12) v13) < 0))))]), (1, [.c (.box 0 0)]), (2, [.c (.box 1 0)]), (6, [.c (.pv (.int .i64 x5))])] (by kernel_rfl) ?_
            refine ops_nil ?_
            refine then_ ?_
            refine cond_ (b := (decide (((j2.D v12) v13) < 0))) rfl (fun k20 => ?_) (fun k20 => ?_)
            · have h := iteT h k20
              refine seq_ ?_
              refine region_ ?_
              refine R tbok 2 [74, 1, 2, 6] [(74, [.c (.pv (.int .i64 j2.N))]), (1, [.c (.box 0 0)]), (2, [.c (.box 1 0)]), (6, [.c (.pv (.int .i64 x5))])] (by kernel_rfl) ?_
              obtain ⟨v14, k21, h⟩ := bindE h
              refine C rfl rfl (fl_call rfl Try.call72 rfl (by kernel_rfl) (by kernel_rfl) (zone_none_meets k21)) rfl ?_
              refine S rfl rfl rfl ty44 (by decide) rfl rfl rfl rfl rfl (.all rfl) (.s .z) ?_
              refine ops_nil ?_
              refine then_ ?_
              refine ret_ ?_
              obtain rfl := retE h
              refine bR (tR (lR (rw_ (.cellA (ys := (bs (e_zone_Zone v14))) ty44 rfl rfl (by kernel_rfl) (by kernel_rfl) .nil) ?_)))
              refine w_none 0 .z ?_
              refine w_none 1 (.s .z) ?_
              refine w_cut 0 rfl rfl rfl rfl ?_
              exact wkE (by kernel_rfl) (by kernel_rfl)
            · have h := iteF h k20
              refine skip_ ?_
              refine bN ?_
              refine then_ ?_
              refine region_ ?_
              refine R tbok 3 [6, 1, 2] [(6, [.c (.pv (.int .i64 (IntKind.i64.wrap (x5 + 1))))]), (1, [.c (.box 0 0)]), (2, [.c (.box 1 0)])] (by kernel_rfl) ?_
              refine ops_nil ?_
              obtain rfl := retE h
              refine lN ?_
              refine w_sub (env' := [(1, [.c (.box 0 0)]), (2, [.c (.box 1 0)]), (6, [.c (.pv (.int .i64 (IntKind.i64.wrap (x5 + 1))))])]) (sub_cons rfl (sub_cons rfl (sub_cons rfl sub_nil))) ?_
              exact wkE (by kernel_rfl) (by kernel_rfl)
          · have h := iteF h k17
            refine exit_ ?_
            refine tX ?_
            obtain rfl := retE h
            refine lX ?_
            refine w_sub (env' := [(1, [.c (.box 0 0)]), (2, [.c (.box 1 0)])]) (sub_cons rfl (sub_cons rfl sub_nil)) ?_
            exact wkE (by kernel_rfl) (by kernel_rfl)
        · have h := elimL h
          obtain rfl := retE h
          exact (tR (rwr hs))
        · have h := elimR h
          refine then_ ?_
          refine seq_ ?_
          refine region_ ?_
          refine R tbok 1 [76, 2] [(76, [.agg (bs (e_zone_Zone j2))]), (2, [.c (.box 1 0)])] (by kernel_rfl) ?_
          refine S rfl rfl rfl ty44 (by decide) rfl rfl rfl rfl rfl (.all rfl) (.s .z) ?_
          refine ops_nil ?_
          refine then_ ?_
          refine ret_ ?_
          obtain rfl := retE h
          refine rwr (rw_ (.cellA (ys := (bs (e_zone_Zone j2))) ty44 rfl rfl (by kernel_rfl) (by kernel_rfl) .nil) ?_)
          refine w_none 0 .z ?_
          refine w_none 1 (.s .z) ?_
          refine w_cut 0 rfl rfl rfl rfl ?_
          exact wkE (by kernel_rfl) (by kernel_rfl)

theorem zone_moved_meets {a0 : zone_Zone} {a1 : Int} {a2 : Int} {r : zone_Zone} (h : zone_moved a0 a1 a2 = some r) : MeetsV Try.prog GG 98 [.agg (bs (e_zone_Zone a0)), .c (.pv (.int .i64 a1)), .c (.pv (.int .i64 a2))] [.agg (bs (e_zone_Zone r))] := by
  refine MeetsS.toV (meetsW_of (st0 := []) (N := 41) r_zone_moved o_zone_moved r Try.func98 rfl rfl rfl (by dsimp only [argEnv]) rfl ?_) rfl
  unfold zone_moved at h
  refine seq_ ?_
  refine region_ ?_
  refine B rfl rfl (bir_box rfl rfl rfl) rfl rfl .z ?_
  refine B rfl rfl (bir_alloc rfl z44 rfl rfl) rfl rfl (.s .z) ?_
  refine ops_nil ?_
  refine then_ ?_
  refine seq_ ?_
  refine seq_ ?_
  refine region_ ?_
  refine R tbok 1 [7, 6, 3, 1, 2] [(7, [.c (.pv (.int .i64 0))]), (6, [.c (.box 1 0)]), (3, [.c (.box 0 0)]), (1, [.c (.pv (.int .i64 a1))]), (2, [.c (.pv (.int .i64 a2))])] (by kernel_rfl) ?_
  refine ops_nil ?_
  refine then_ ?_
  refine lp_ (Qr := RW Try.prog GG Try.f98 0 r_zone_moved o_zone_moved) (zone_moved_l1 a1 a2) (fun (x1 : (Int × zone_Zone)) => (⟨41, 0, [(1, [.c (.pv (.int .i64 a1))]), (2, [.c (.pv (.int .i64 a2))]), (3, [.c (.box 0 0)]), (6, [.c (.box 1 0)]), (7, [.c (.pv (.int .i64 x1.1))])], [some (.box true 44 (bs (e_zone_Zone x1.2))), some (.box true 44 (bs (e_zone_Zone (zone_Zone.mk 0 false (arr (arr 0 []) [(arr 0 [0, 0, 0, 0, 0, 0, 0]), (arr 0 [0, 0, 0, 0, 0, 0, 0]), (arr 0 [0, 0, 0, 0, 0, 0, 0]), (arr 0 [0, 0, 0, 0, 0, 0, 0]), (arr 0 [0, 0, 0, 0, 0, 0, 0]), (arr 0 [0, 0, 0, 0, 0, 0, 0]), (arr 0 [0, 0, 0, 0, 0, 0, 0])])))))]⟩ : Sx)) (fun (j1 : zone_Zone) => (⟨41, 0, [(3, [.c (.box 0 0)]), (6, [.c (.box 1 0)])], [some (.box true 44 (bs (e_zone_Zone j1))), some (.box true 44 (bs (e_zone_Zone (zone_Zone.mk 0 false (arr (arr 0 []) [(arr 0 [0, 0, 0, 0, 0, 0, 0]), (arr 0 [0, 0, 0, 0, 0, 0, 0]), (arr 0 [0, 0, 0, 0, 0, 0, 0]), (arr 0 [0, 0, 0, 0, 0, 0, 0]), (arr 0 [0, 0, 0, 0, 0, 0, 0]), (arr 0 [0, 0, 0, 0, 0, 0, 0]), (arr 0 [0, 0, 0, 0, 0, 0, 0])])))))]⟩ : Sx)) (0, a0) RW.only h wT ?_ (fun x1 o h => ?_) (fun r h s' hs => ?_) (fun j1 h => ?_)
  · refine w_sub (env' := [(1, [.c (.pv (.int .i64 a1))]), (2, [.c (.pv (.int .i64 a2))]), (3, [.c (.box 0 0)]), (6, [.c (.box 1 0)]), (7, [.c (.pv (.int .i64 0))])]) (sub_cons rfl (sub_cons rfl (sub_cons rfl (sub_cons rfl (sub_cons rfl sub_nil))))) ?_
    exact wkE (by kernel_rfl) (by kernel_rfl)
  · unfold zone_moved_l1 at h
    refine seq_ ?_
    refine seq_ ?_
    refine region_ ?_
    refine R tbok 4 [11, 1, 2, 3, 6, 7] [(11, [.c (.pv (.bool (decide (x1.1 ≤ x1.2.N))))]), (1, [.c (.pv (.int .i64 a1))]), (2, [.c (.pv (.int .i64 a2))]), (3, [.c (.box 0 0)]), (6, [.c (.box 1 0)]), (7, [.c (.pv (.int .i64 x1.1))])] (by kernel_rfl) ?_
    refine ops_nil ?_
    refine then_ ?_
    refine cond_ (b := (decide (x1.1 ≤ x1.2.N))) rfl (fun k1 => ?_) (fun k1 => ?_)
    · have h := iteT h k1
      refine skip_ ?_
      refine then_ ?_
      refine seq_ ?_
      refine jn_ (fun (j2 : zone_Zone) => (⟨41, 0, [(1, [.c (.pv (.int .i64 a1))]), (2, [.c (.pv (.int .i64 a2))]), (3, [.c (.box 0 0)]), (6, [.c (.box 1 0)]), (7, [.c (.pv (.int .i64 x1.1))])], [some (.box true 44 (bs (e_zone_Zone j2))), some (.box true 44 (bs (e_zone_Zone (zone_Zone.mk 0 false (arr (arr 0 []) [(arr 0 [0, 0, 0, 0, 0, 0, 0]), (arr 0 [0, 0, 0, 0, 0, 0, 0]), (arr 0 [0, 0, 0, 0, 0, 0, 0]), (arr 0 [0, 0, 0, 0, 0, 0, 0]), (arr 0 [0, 0, 0, 0, 0, 0, 0]), (arr 0 [0, 0, 0, 0, 0, 0, 0]), (arr 0 [0, 0, 0, 0, 0, 0, 0])])))))]⟩ : Sx)) h wT (fun o h => ?_) (fun j2 h => ?_)
      · refine block_ ?_
        refine seq_ ?_
        refine region_ ?_
        refine R tbok 3 [16, 1, 2, 3, 6, 7] [(16, [.c (.pv (.bool (x1.1 != a1)))]), (1, [.c (.pv (.int .i64 a1))]), (2, [.c (.pv (.int .i64 a2))]), (3, [.c (.box 0 0)]), (6, [.c (.box 1 0)]), (7, [.c (.pv (.int .i64 x1.1))])] (by kernel_rfl) ?_
        refine ops_nil ?_
        refine then_ ?_
        refine cond_ (b := (x1.1 != a1)) rfl (fun k2 => ?_) (fun k2 => ?_)
        · have h := iteT h k2
          refine seq_ ?_
          refine drawn_ mixed ?_
          refine dl (t := 17) 0 [.c (.pv (.int .i64 a1))] rfl ?_
          refine dl (t := 18) 1 [.c (.pv (.int .i64 x1.1))] rfl ?_
          refine dl (t := 19) 2 [.c (.box 0 2)] rfl ?_
          obtain ⟨v1, k3, h⟩ := bindE h
          refine dl (t := 20) 3 [.c (.box 0 (2 + v1 * 7))] rfl ?_
          obtain ⟨v2, k4, h⟩ := bindE h
          refine dl (t := 21) 4 [.c (.box 0 (2 + v1 * 7 + v2 * 1))] rfl ?_
          refine dl (t := 22) 5 [.c (.pv (.int .i64 ((x1.2.D v1) v2)))] rfl ?_
          refine dl (t := 23) 6 [.c (.pv (.int .i64 a2))] rfl ?_
          refine dl (t := 24) 7 [.c (.pv (.int .i64 (IntKind.i64.wrap (((x1.2.D v1) v2) + a2))))] rfl ?_
          refine dl (t := 25) 8 [.c (.box 0 2)] rfl ?_
          obtain ⟨v3, k5, h⟩ := bindE h
          refine dl (t := 26) 9 [.c (.box 0 (2 + v3 * 7))] rfl ?_
          obtain ⟨v4, k6, h⟩ := bindE h
          refine dl (t := 27) 10 [.c (.box 0 (2 + v3 * 7 + v4 * 1))] rfl ?_
          obtain ⟨v5, k7, h⟩ := bindE h
          refine d_storeG (cs' := [.pv (.int .i64 x1.2.N), .pv (.bool x1.2.None), .pv (.int .i64 ((v5 0) 0)), .pv (.int .i64 ((v5 0) 1)), .pv (.int .i64 ((v5 0) 2)), .pv (.int .i64 ((v5 0) 3)), .pv (.int .i64 ((v5 0) 4)), .pv (.int .i64 ((v5 0) 5)), .pv (.int .i64 ((v5 0) 6)), .pv (.int .i64 ((v5 1) 0)), .pv (.int .i64 ((v5 1) 1)), .pv (.int .i64 ((v5 1) 2)), .pv (.int .i64 ((v5 1) 3)), .pv (.int .i64 ((v5 1) 4)), .pv (.int .i64 ((v5 1) 5)), .pv (.int .i64 ((v5 1) 6)), .pv (.int .i64 ((v5 2) 0)), .pv (.int .i64 ((v5 2) 1)), .pv (.int .i64 ((v5 2) 2)), .pv (.int .i64 ((v5 2) 3)), .pv (.int .i64 ((v5 2) 4)), .pv (.int .i64 ((v5 2) 5)), .pv (.int .i64 ((v5 2) 6)), .pv (.int .i64 ((v5 3) 0)), .pv (.int .i64 ((v5 3) 1)), .pv (.int .i64 ((v5 3) 2)), .pv (.int .i64 ((v5 3) 3)), .pv (.int .i64 ((v5 3) 4)), .pv (.int .i64 ((v5 3) 5)), .pv (.int .i64 ((v5 3) 6)), .pv (.int .i64 ((v5 4) 0)), .pv (.int .i64 ((v5 4) 1)), .pv (.int .i64 ((v5 4) 2)), .pv (.int .i64 ((v5 4) 3)), .pv (.int .i64 ((v5 4) 4)), .pv (.int .i64 ((v5 4) 5)), .pv (.int .i64 ((v5 4) 6)), .pv (.int .i64 ((v5 5) 0)), .pv (.int .i64 ((v5 5) 1)), .pv (.int .i64 ((v5 5) 2)), .pv (.int .i64 ((v5 5) 3)), .pv (.int .i64 ((v5 5) 4)), .pv (.int .i64 ((v5 5) 5)), .pv (.int .i64 ((v5 5) 6)), .pv (.int .i64 ((v5 6) 0)), .pv (.int .i64 ((v5 6) 1)), .pv (.int .i64 ((v5 6) 2)), .pv (.int .i64 ((v5 6) 3)), .pv (.int .i64 ((v5 6) 4)), .pv (.int .i64 ((v5 6) 5)), .pv (.int .i64 ((v5 6) 6))]) (wm [0, 0, 0, 5, 15, 31, 0, 127, 0, 257, 1023, 2047]) 11 rfl (by kernel_rfl) (by kernel_rfl) (by kernel_rfl) (by kernel_rfl) (by kernel_rfl) (gi0 rfl) (oL [] rfl (by kernel_rfl) (fl_lt (ia_boxD rfl u41 ty3 rfl rfl k6)) (oL [] rfl (by kernel_rfl) (fl_lt (ia_boxD rfl u42 ty41 rfl rfl k5)) (oE tbok [] 3 (by kernel_rfl) (oL [] rfl (by kernel_rfl) (fl_lt (lt_load_box rfl ty3 rfl rfl (at2 (e := (PV.int .i64)) (D2 := x1.2.D) (pre := [.int .i64 x1.2.N, .bool x1.2.None]) (post := []) (n1 := 7) (n2 := 7) (by kernel_rfl) (inA_lt k3) (inA_lt k4)))) (oL [] rfl (by kernel_rfl) (fl_lt (ia_boxD rfl u41 ty3 rfl rfl k4)) (oL [] rfl (by kernel_rfl) (fl_lt (ia_boxD rfl u42 ty41 rfl rfl k3)) (oE tbok [] 3 (by kernel_rfl) trivial))))))) rfl rfl ty3 rfl rfl rfl rfl rfl (fit2 (e := (PV.int .i64)) (D2 := x1.2.D) (pre := [.int .i64 x1.2.N, .bool x1.2.None]) (post := []) (n1 := 7) (n2 := 7) (by kernel_rfl) (inA_lt k5) (inA_lt k6)) (put2 (e := (PV.int .i64)) (D2 := x1.2.D) (pre := [.int .i64 x1.2.N, .bool x1.2.None]) (post := []) (n1 := 7) (n2 := 7) (by kernel_rfl) (inA_lt k5) (inA_lt k6) (retE k7) (by kernel_rfl)) (SetAt.eq .z) ?_
          refine d_endS (env2 := [(1, [.c (.pv (.int .i64 a1))]), (2, [.c (.pv (.int .i64 a2))]), (3, [.c (.box 0 0)]), (6, [.c (.box 1 0)]), (7, [.c (.pv (.int .i64 x1.1))])]) (wm [0, 0, 0, 5, 15, 31, 0, 127, 0, 257, 1023, 2047]) (by kernel_rfl) (by kernel_rfl) (by kernel_rfl) (oN 12 (by kernel_rfl) trivial) (sub_cons rfl (sub_cons rfl (sub_cons rfl (sub_cons rfl (sub_cons rfl sub_nil))))) wT ?_
          refine then_ ?_
          refine drawn_ mixed ?_
          refine dl (t := 28) 0 [.c (.pv (.int .i64 x1.1))] rfl ?_
          refine dl (t := 29) 1 [.c (.pv (.int .i64 a1))] rfl ?_
          refine dl (t := 30) 2 [.c (.box 0 2)] rfl ?_
          obtain ⟨v6, k8, h⟩ := bindE h
          refine dl (t := 31) 3 [.c (.box 0 (2 + v6 * 7))] rfl ?_
          obtain ⟨v7, k9, h⟩ := bindE h
          refine dl (t := 32) 4 [.c (.box 0 (2 + v6 * 7 + v7 * 1))] rfl ?_
          refine dl (t := 33) 5 [.c (.pv (.int .i64 ((v5 v6) v7)))] rfl ?_
          refine dl (t := 34) 6 [.c (.pv (.int .i64 a2))] rfl ?_
          refine dl (t := 35) 7 [.c (.pv (.int .i64 (IntKind.i64.wrap (((v5 v6) v7) - a2))))] rfl ?_
          refine dl (t := 36) 8 [.c (.box 0 2)] rfl ?_
          obtain ⟨v8, k10, h⟩ := bindE h
          refine dl (t := 37) 9 [.c (.box 0 (2 + v8 * 7))] rfl ?_
          obtain ⟨v9, k11, h⟩ := bindE h
          refine dl (t := 38) 10 [.c (.box 0 (2 + v8 * 7 + v9 * 1))] rfl ?_
          obtain ⟨v10, k12, h⟩ := bindE h
          refine d_storeG (cs' := [.pv (.int .i64 x1.2.N), .pv (.bool x1.2.None), .pv (.int .i64 ((v10 0) 0)), .pv (.int .i64 ((v10 0) 1)), .pv (.int .i64 ((v10 0) 2)), .pv (.int .i64 ((v10 0) 3)), .pv (.int .i64 ((v10 0) 4)), .pv (.int .i64 ((v10 0) 5)), .pv (.int .i64 ((v10 0) 6)), .pv (.int .i64 ((v10 1) 0)), .pv (.int .i64 ((v10 1) 1)), .pv (.int .i64 ((v10 1) 2)), .pv (.int .i64 ((v10 1) 3)), .pv (.int .i64 ((v10 1) 4)), .pv (.int .i64 ((v10 1) 5)), .pv (.int .i64 ((v10 1) 6)), .pv (.int .i64 ((v10 2) 0)), .pv (.int .i64 ((v10 2) 1)), .pv (.int .i64 ((v10 2) 2)), .pv (.int .i64 ((v10 2) 3)), .pv (.int .i64 ((v10 2) 4)), .pv (.int .i64 ((v10 2) 5)), .pv (.int .i64 ((v10 2) 6)), .pv (.int .i64 ((v10 3) 0)), .pv (.int .i64 ((v10 3) 1)), .pv (.int .i64 ((v10 3) 2)), .pv (.int .i64 ((v10 3) 3)), .pv (.int .i64 ((v10 3) 4)), .pv (.int .i64 ((v10 3) 5)), .pv (.int .i64 ((v10 3) 6)), .pv (.int .i64 ((v10 4) 0)), .pv (.int .i64 ((v10 4) 1)), .pv (.int .i64 ((v10 4) 2)), .pv (.int .i64 ((v10 4) 3)), .pv (.int .i64 ((v10 4) 4)), .pv (.int .i64 ((v10 4) 5)), .pv (.int .i64 ((v10 4) 6)), .pv (.int .i64 ((v10 5) 0)), .pv (.int .i64 ((v10 5) 1)), .pv (.int .i64 ((v10 5) 2)), .pv (.int .i64 ((v10 5) 3)), .pv (.int .i64 ((v10 5) 4)), .pv (.int .i64 ((v10 5) 5)), .pv (.int .i64 ((v10 5) 6)), .pv (.int .i64 ((v10 6) 0)), .pv (.int .i64 ((v10 6) 1)), .pv (.int .i64 ((v10 6) 2)), .pv (.int .i64 ((v10 6) 3)), .pv (.int .i64 ((v10 6) 4)), .pv (.int .i64 ((v10 6) 5)), .pv (.int .i64 ((v10 6) 6))]) (wm [0, 0, 0, 5, 15, 31, 0, 127, 0, 257, 1023, 2047]) 11 rfl (by kernel_rfl) (by kernel_rfl) (by kernel_rfl) (by kernel_rfl) (by kernel_rfl) (gi0 rfl) (oL [] rfl (by kernel_rfl) (fl_lt (ia_boxD rfl u41 ty3 rfl rfl k11)) (oL [] rfl (by kernel_rfl) (fl_lt (ia_boxD rfl u42 ty41 rfl rfl k10)) (oE tbok [] 3 (by kernel_rfl) (oL [] rfl (by kernel_rfl) (fl_lt (lt_load_box rfl ty3 rfl rfl (at2 (e := (PV.int .i64)) (D2 := v5) (pre := [.int .i64 x1.2.N, .bool x1.2.None]) (post := []) (n1 := 7) (n2 := 7) (by kernel_rfl) (inA_lt k8) (inA_lt k9)))) (oL [] rfl (by kernel_rfl) (fl_lt (ia_boxD rfl u41 ty3 rfl rfl k9)) (oL [] rfl (by kernel_rfl) (fl_lt (ia_boxD rfl u42 ty41 rfl rfl k8)) (oE tbok [] 3 (by kernel_rfl) trivial))))))) rfl rfl ty3 rfl rfl rfl rfl rfl (fit2 (e := (PV.int .i64)) (D2 := v5) (pre := [.int .i64 x1.2.N, .bool x1.2.None]) (post := []) (n1 := 7) (n2 := 7) (by kernel_rfl) (inA_lt k10) (inA_lt k11)) (put2 (e := (PV.int .i64)) (D2 := v5) (pre := [.int .i64 x1.2.N, .bool x1.2.None]) (post := []) (n1 := 7) (n2 := 7) (by kernel_rfl) (inA_lt k10) (inA_lt k11) (retE k12) (by kernel_rfl)) (SetAt.eq .z) ?_
          refine d_endS (env2 := [(1, [.c (.pv (.int .i64 a1))]), (2, [.c (.pv (.int .i64 a2))]), (3, [.c (.box 0 0)]), (6, [.c (.box 1 0)]), (7, [.c (.pv (.int .i64 x1.1))])]) (wm [0, 0, 0, 5, 15, 31, 0, 127, 0, 257, 1023, 2047]) (by kernel_rfl) (by kernel_rfl) (by kernel_rfl) (oN 12 (by kernel_rfl) trivial) (sub_cons rfl (sub_cons rfl (sub_cons rfl (sub_cons rfl (sub_cons rfl sub_nil))))) (wB wM) ?_
          refine bN ?_
          obtain rfl := retE h
          refine mN ?_
          exact wkE (by kernel_rfl) (by kernel_rfl)
        · have h := iteF h k2
          refine skip_ ?_
          refine bN ?_
          obtain rfl := retE h
          refine mN ?_
          refine w_sub (env' := [(1, [.c (.pv (.int .i64 a1))]), (2, [.c (.pv (.int .i64 a2))]), (3, [.c (.box 0 0)]), (6, [.c (.box 1 0)]), (7, [.c (.pv (.int .i64 x1.1))])]) (sub_cons rfl (sub_cons rfl (sub_cons rfl (sub_cons rfl (sub_cons rfl sub_nil))))) ?_
          exact wkE (by kernel_rfl) (by kernel_rfl)
      · refine then_ ?_
        refine region_ ?_
        refine R tbok 3 [7, 1, 2, 3, 6] [(7, [.c (.pv (.int .i64 (IntKind.i64.wrap (x1.1 + 1))))]), (1, [.c (.pv (.int .i64 a1))]), (2, [.c (.pv (.int .i64 a2))]), (3, [.c (.box 0 0)]), (6, [.c (.box 1 0)])] (by kernel_rfl) ?_
        refine ops_nil ?_
        obtain rfl := retE h
        refine lN ?_
        refine w_sub (env' := [(1, [.c (.pv (.int .i64 a1))]), (2, [.c (.pv (.int .i64 a2))]), (3, [.c (.box 0 0)]), (6, [.c (.box 1 0)]), (7, [.c (.pv (.int .i64 (IntKind.i64.wrap (x1.1 + 1))))])]) (sub_cons rfl (sub_cons rfl (sub_cons rfl (sub_cons rfl (sub_cons rfl sub_nil))))) ?_
        exact wkE (by kernel_rfl) (by kernel_rfl)
    · have h := iteF h k1
      refine exit_ ?_
      refine tX ?_
      obtain rfl := retE h
      refine lX ?_
      refine w_sub (env' := [(3, [.c (.box 0 0)]), (6, [.c (.box 1 0)])]) (sub_cons rfl (sub_cons rfl sub_nil)) ?_
      exact wkE (by kernel_rfl) (by kernel_rfl)
  · cases h
  · have h := elimR h
    refine then_ ?_
    refine seq_ ?_
    refine region_ ?_
    refine R tbok 1 [39, 6] [(39, [.agg (bs (e_zone_Zone j1))]), (6, [.c (.box 1 0)])] (by kernel_rfl) ?_
    obtain ⟨v11, k13, h⟩ := bindE h
    refine C rfl rfl (fl_call rfl Try.call55 rfl (by kernel_rfl) (by kernel_rfl) (zone_Zone_close_meets k13)) rfl ?_
    refine S rfl rfl rfl ty44 (by decide) rfl rfl rfl rfl rfl (.all rfl) (.s .z) ?_
    refine ops_nil ?_
    refine then_ ?_
    refine ret_ ?_
    obtain rfl := retE h
    refine rwr (rw_ (.cellA (ys := (bs (e_zone_Zone v11))) ty44 rfl rfl (by kernel_rfl) (by kernel_rfl) .nil) ?_)
    refine w_none 0 .z ?_
    refine w_none 1 (.s .z) ?_
    refine w_cut 0 rfl rfl rfl rfl ?_
    exact wkE (by kernel_rfl) (by kernel_rfl)
end Go.Proofs.Ytbebnddalipfhaa.Abs
