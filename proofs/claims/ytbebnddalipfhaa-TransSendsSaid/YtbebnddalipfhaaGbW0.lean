/- Gb: the walks. -/
import Derived.Test.YtbebnddalipfhaaGbD
import Derived.Test.YtbebnddalipfhaaGbF
namespace Go.Proofs.Ytbebnddalipfhaa.Abs
open Go Go.RowKit
set_option linter.unusedVariables false
set_option maxRecDepth 100000
set_option maxHeartbeats 4000000
theorem itv_Empty_meets {a0 : itv_Itv} {r : Bool} (h : itv_Empty a0 = some r) : MeetsV Try.prog GG 31 [.agg [.pv (.int .i64 a0.Lo), .pv (.int .i64 a0.Hi)]] [.c (.pv (.bool r))] := by
  refine MeetsS.toV (meetsW_of (st0 := []) (N := 8) r_itv_Empty o_itv_Empty r Try.func31 rfl rfl rfl (by dsimp only [argEnv]) rfl ?_) rfl
  unfold itv_Empty at h
  refine seq_ ?_
  refine region_ ?_
  refine B rfl rfl (bir_box rfl rfl rfl) rfl rfl .z ?_
  refine R tbok 1 [2, 1] [(2, [.c (.pv (.bool false))]), (1, [.c (.box 0 0)])] (by kernel_rfl) ?_
  refine ops_nil ?_
  refine then_ ?_
  refine seq_ ?_
  refine region_ ?_
  refine R tbok 6 [2] [(2, [.c (.pv (.bool (decide (a0.Lo > a0.Hi))))])] (by kernel_rfl) ?_
  refine ops_nil ?_
  refine then_ ?_
  refine ret_ ?_
  obtain rfl := retE h
  refine rwr (rw_ (.tmp rfl .nil) ?_)
  refine w_none 0 .z ?_
  refine w_cut 0 rfl rfl rfl rfl ?_
  exact wkE (by kernel_rfl) (by kernel_rfl)

theorem itv_None_meets {r : itv_Itv} (h : itv_None = some r) : MeetsV Try.prog GG 22 [] [.agg [.pv (.int .i64 r.Lo), .pv (.int .i64 r.Hi)]] := by
  refine MeetsS.toV (meetsW_of (st0 := []) (N := 2) r_itv_None o_itv_None r Try.func22 rfl rfl rfl (by dsimp only [argEnv]) rfl ?_) rfl
  unfold itv_None at h
  refine seq_ ?_
  refine region_ ?_
  refine B rfl rfl (bir_alloc rfl z53 rfl rfl) rfl rfl .z ?_
  refine ops_nil ?_
  refine then_ ?_
  refine seq_ ?_
  refine region_ ?_
  refine L rfl rfl (lt_build (cs := [.pv (.int .i64 1), .pv (.int .i64 0)]) rfl st53 rfl (by kernel_rfl)) rfl ?_
  refine S rfl rfl rfl ty53 (by decide) rfl rfl rfl rfl rfl (.all rfl) .z ?_
  refine ops_nil ?_
  refine then_ ?_
  refine ret_ ?_
  obtain rfl := retE h
  refine rwr (rw_ (.cellA (ys := [.pv (.int .i64 1), .pv (.int .i64 0)]) ty53 rfl rfl (by kernel_rfl) (by kernel_rfl) .nil) ?_)
  refine w_none 0 .z ?_
  refine w_cut 0 rfl rfl rfl rfl ?_
  exact wkE (by kernel_rfl) (by kernel_rfl)

theorem itv_norm_meets {a0 : itv_Itv} {r : itv_Itv} (h : itv_norm a0 = some r) : MeetsV Try.prog GG 33 [.agg [.pv (.int .i64 a0.Lo), .pv (.int .i64 a0.Hi)]] [.agg [.pv (.int .i64 r.Lo), .pv (.int .i64 r.Hi)]] := by
  refine MeetsS.toV (meetsW_of (st0 := []) (N := 7) r_itv_norm o_itv_norm r Try.func33 rfl rfl rfl (by dsimp only [argEnv]) rfl ?_) rfl
  unfold itv_norm at h
  refine seq_ ?_
  refine region_ ?_
  refine B rfl rfl (bir_box rfl rfl rfl) rfl rfl .z ?_
  refine B rfl rfl (bir_alloc rfl z53 rfl rfl) rfl rfl (.s .z) ?_
  refine ops_nil ?_
  refine then_ ?_
  refine seq_ ?_
  refine seq_ ?_
  refine region_ ?_
  refine R tbok 1 [3, 2, 1] [(3, [.agg [.pv (.int .i64 a0.Lo), .pv (.int .i64 a0.Hi)]]), (2, [.c (.box 1 0)]), (1, [.c (.box 0 0)])] (by kernel_rfl) ?_
  obtain ⟨v1, k1, h⟩ := bindE h
  refine C rfl rfl (fl_call rfl Try.call31 rfl (by kernel_rfl) (by kernel_rfl) (itv_Empty_meets k1)) rfl ?_
  refine ops_nil ?_
  refine then_ ?_
  refine cond_ (b := v1) rfl (fun k2 => ?_) (fun k2 => ?_)
  · have h := iteT h k2
    refine seq_ ?_
    refine region_ ?_
    obtain ⟨v2, k3, h⟩ := bindE h
    refine C rfl rfl (fl_call rfl Try.call22 rfl (by kernel_rfl) (by kernel_rfl) (itv_None_meets k3)) rfl ?_
    refine S rfl rfl rfl ty53 (by decide) rfl rfl rfl rfl rfl (.all rfl) (.s .z) ?_
    refine ops_nil ?_
    refine then_ ?_
    refine ret_ ?_
    obtain rfl := retE h
    refine tR (rwr (rw_ (.cellA (ys := [.pv (.int .i64 v2.Lo), .pv (.int .i64 v2.Hi)]) ty53 rfl rfl (by kernel_rfl) (by kernel_rfl) .nil) ?_))
    refine w_none 0 .z ?_
    refine w_none 1 (.s .z) ?_
    refine w_cut 0 rfl rfl rfl rfl ?_
    exact wkE (by kernel_rfl) (by kernel_rfl)
  · have h := iteF h k2
    refine skip_ ?_
    refine then_ ?_
    refine seq_ ?_
    refine region_ ?_
    refine R tbok 1 [6, 2] [(6, [.agg [.pv (.int .i64 a0.Lo), .pv (.int .i64 a0.Hi)]]), (2, [.c (.box 1 0)])] (by kernel_rfl) ?_
    refine S rfl rfl rfl ty53 (by decide) rfl rfl rfl rfl rfl (.all rfl) (.s .z) ?_
    refine ops_nil ?_
    refine then_ ?_
    refine ret_ ?_
    obtain rfl := retE h
    refine rwr (rw_ (.cellA (ys := [.pv (.int .i64 a0.Lo), .pv (.int .i64 a0.Hi)]) ty53 rfl rfl (by kernel_rfl) (by kernel_rfl) .nil) ?_)
    refine w_none 0 .z ?_
    refine w_none 1 (.s .z) ?_
    refine w_cut 0 rfl rfl rfl rfl ?_
    exact wkE (by kernel_rfl) (by kernel_rfl)

theorem itv_Of_meets {a0 : Int} {a1 : Int} {r : itv_Itv} (h : itv_Of a0 a1 = some r) : MeetsV Try.prog GG 17 [.c (.pv (.int .i64 a0)), .c (.pv (.int .i64 a1))] [.agg [.pv (.int .i64 r.Lo), .pv (.int .i64 r.Hi)]] := by
  refine MeetsS.toV (meetsW_of (st0 := []) (N := 11) r_itv_Of o_itv_Of r Try.func17 rfl rfl rfl (by dsimp only [argEnv]) rfl ?_) rfl
  unfold itv_Of at h
  refine seq_ ?_
  refine region_ ?_
  refine B rfl rfl (bir_alloc rfl z53 rfl rfl) rfl rfl .z ?_
  refine ops_nil ?_
  refine then_ ?_
  refine seq_ ?_
  refine region_ ?_
  refine R tbok 1 [5, 4, 1] [(5, [.c (.pv (.int .i64 a0))]), (4, [.c (.box 0 0)]), (1, [.c (.pv (.int .i64 a1))])] (by kernel_rfl) ?_
  refine L rfl rfl (lt_max2 rfl rfl rfl) rfl ?_
  refine R tbok 1 [7, 6, 4] [(7, [.c (.pv (.int .i64 a1))]), (6, [.c (.pv (.int .i64 (max a0 (-2147483648))))]), (4, [.c (.box 0 0)])] (by kernel_rfl) ?_
  refine L rfl rfl (lt_min2 rfl rfl rfl) rfl ?_
  refine L rfl rfl (lt_build (cs := [.pv (.int .i64 (max a0 (-2147483648))), .pv (.int .i64 (min a1 2147483647))]) rfl st53 rfl (by kernel_rfl)) rfl ?_
  obtain ⟨v1, k1, h⟩ := bindE h
  refine C rfl rfl (fl_call rfl Try.call33 rfl (by kernel_rfl) (by kernel_rfl) (itv_norm_meets k1)) rfl ?_
  refine S rfl rfl rfl ty53 (by decide) rfl rfl rfl rfl rfl (.all rfl) .z ?_
  refine ops_nil ?_
  refine then_ ?_
  refine ret_ ?_
  obtain rfl := retE h
  refine rwr (rw_ (.cellA (ys := [.pv (.int .i64 v1.Lo), .pv (.int .i64 v1.Hi)]) ty53 rfl rfl (by kernel_rfl) (by kernel_rfl) .nil) ?_)
  refine w_none 0 .z ?_
  refine w_cut 0 rfl rfl rfl rfl ?_
  exact wkE (by kernel_rfl) (by kernel_rfl)

theorem itv_Const_meets {a0 : Int} {r : itv_Itv} (h : itv_Const a0 = some r) : MeetsV Try.prog GG 15 [.c (.pv (.int .i64 a0))] [.agg [.pv (.int .i64 r.Lo), .pv (.int .i64 r.Hi)]] := by
  refine MeetsS.toV (meetsW_of (st0 := []) (N := 6) r_itv_Const o_itv_Const r Try.func15 rfl rfl rfl (by dsimp only [argEnv]) rfl ?_) rfl
  unfold itv_Const at h
  refine seq_ ?_
  refine region_ ?_
  refine B rfl rfl (bir_alloc rfl z53 rfl rfl) rfl rfl .z ?_
  refine ops_nil ?_
  refine then_ ?_
  refine seq_ ?_
  refine region_ ?_
  refine R tbok 2 [4, 3, 2] [(4, [.c (.pv (.int .i64 a0))]), (3, [.c (.pv (.int .i64 a0))]), (2, [.c (.box 0 0)])] (by kernel_rfl) ?_
  obtain ⟨v1, k1, h⟩ := bindE h
  refine C rfl rfl (fl_call rfl Try.call17 rfl (by kernel_rfl) (by kernel_rfl) (itv_Of_meets k1)) rfl ?_
  refine S rfl rfl rfl ty53 (by decide) rfl rfl rfl rfl rfl (.all rfl) .z ?_
  refine ops_nil ?_
  refine then_ ?_
  refine ret_ ?_
  obtain rfl := retE h
  refine rwr (rw_ (.cellA (ys := [.pv (.int .i64 v1.Lo), .pv (.int .i64 v1.Hi)]) ty53 rfl rfl (by kernel_rfl) (by kernel_rfl) .nil) ?_)
  refine w_none 0 .z ?_
  refine w_cut 0 rfl rfl rfl rfl ?_
  exact wkE (by kernel_rfl) (by kernel_rfl)

theorem queue_None_meets {a0 : check_Chan} {r : queue_Elem} (h : queue_None a0 = some r) : MeetsV Try.prog GG 13 [.agg [.pv (.int .i64 a0.Kind), .pv (.int .i64 a0.Size), .pv (.int .i64 a0.From), .pv (.int .i64 a0.To), .pv (.int .i64 a0.Tags), .pv (.sl (List.map e_sl33 a0.Rule))]] [.agg [.pv (.int .i64 r.Len.Lo), .pv (.int .i64 r.Len.Hi), .pv (.sl (List.map e_itv_Itv r.Vals))]] := by
  refine MeetsS.toV (meetsW_of (st0 := []) (N := 18) r_queue_None o_queue_None r Try.func13 rfl rfl rfl (by dsimp only [argEnv]) rfl ?_) rfl
  unfold queue_None at h
  refine seq_ ?_
  refine region_ ?_
  refine B rfl rfl (bir_box rfl rfl rfl) rfl rfl .z ?_
  refine B rfl rfl (bir_alloc rfl z75 rfl rfl) rfl rfl (.s .z) ?_
  refine ops_nil ?_
  refine then_ ?_
  refine seq_ ?_
  refine region_ ?_
  obtain ⟨v1, k1, h⟩ := bindE h
  refine C rfl rfl (fl_call rfl Try.call15 rfl (by kernel_rfl) (by kernel_rfl) (itv_Const_meets k1)) rfl ?_
  refine L rfl rfl (lt_build (cs := [.pv (.int .i64 v1.Lo), .pv (.int .i64 v1.Hi), .emp]) rfl st75 rfl (by kernel_rfl)) rfl ?_
  refine B rfl rfl (bir_alloc rfl z75 rfl rfl) rfl rfl (.s (.s .z)) ?_
  refine S rfl rfl rfl ty75 (by decide) rfl rfl rfl rfl rfl (.all rfl) (.s (.s .z)) ?_
  refine ops_nil ?_
  refine then_ ?_
  refine seq_ ?_
  refine seq_ ?_
  refine region_ ?_
  refine R tbok 3 [8, 7, 3, 2] [(8, [.c (.pv (.int .i64 0))]), (7, [.c (.pv (.int .i64 a0.Tags))]), (3, [.c (.box 2 0)]), (2, [.c (.box 1 0)])] (by kernel_rfl) ?_
  refine ops_nil ?_
  refine then_ ?_
  refine CodeT.weak (w_liftC 2 2 53 2 rfl rfl (.s (.s .z)) (.s (.s .z)) (.s (.s (.s .z))) (Weak.refl _)) ?_
  refine lp_ (Qr := RW Try.prog GG Try.f13 0 r_queue_None o_queue_None) (queue_None_l2 a0) (fun (x2 : (Int × (List itv_Itv))) => (⟨18, 0, [(2, [.c (.box 1 0)]), (3, [.c (.box 2 0)]), (7, [.c (.pv (.int .i64 a0.Tags))]), (8, [.c (.pv (.int .i64 x2.1))])], [none, some (.box true 75 [.pv (.int .i64 0), .pv (.int .i64 0), .emp]), some (.box true 75 [.pv (.int .i64 v1.Lo), .pv (.int .i64 v1.Hi), .row 3]), some (.row true true 53 2 (List.map e_itv_Itv x2.2))]⟩ : Sx)) (fun (j2 : (List itv_Itv)) => (⟨18, 0, [(2, [.c (.box 1 0)]), (3, [.c (.box 2 0)])], [none, some (.box true 75 [.pv (.int .i64 0), .pv (.int .i64 0), .emp]), some (.box true 75 [.pv (.int .i64 v1.Lo), .pv (.int .i64 v1.Hi), .row 3]), some (.row true true 53 2 (List.map e_itv_Itv j2))]⟩ : Sx)) (0, []) RW.only h wT ?_ (fun x2 o h => ?_) (fun r h s' hs => ?_) (fun j2 h => ?_)
  · refine w_sub (env' := [(2, [.c (.box 1 0)]), (3, [.c (.box 2 0)]), (7, [.c (.pv (.int .i64 a0.Tags))]), (8, [.c (.pv (.int .i64 0))])]) (sub_cons rfl (sub_cons rfl (sub_cons rfl (sub_cons rfl sub_nil)))) ?_
    refine w_none 0 .z ?_
    refine w_ch 3 rfl (.s (.s (.s .z))) ?_
    exact wkE (by kernel_rfl) (by kernel_rfl)
  · unfold queue_None_l2 at h
    refine seq_ ?_
    refine region_ ?_
    refine R tbok 1 [9, 2, 3, 7, 8] [(9, [.c (.pv (.bool (decide (x2.1 < a0.Tags))))]), (2, [.c (.box 1 0)]), (3, [.c (.box 2 0)]), (7, [.c (.pv (.int .i64 a0.Tags))]), (8, [.c (.pv (.int .i64 x2.1))])] (by kernel_rfl) ?_
    refine ops_nil ?_
    refine then_ ?_
    refine seq_ ?_
    refine cond_ (b := (decide (x2.1 < a0.Tags))) rfl (fun k2 => ?_) (fun k2 => ?_)
    · have h := iteT h k2
      refine skip_ ?_
      refine then_ ?_
      refine seq_ ?_
      refine block_ ?_
      refine drawn_ mixed ?_
      refine dl (t := 10) 0 [.c (.box 2 2)] rfl ?_
      refine dl (t := 11) 1 [.c (.row 3)] rfl ?_
      obtain ⟨v3, k4, h⟩ := bindE h
      refine dl (t := 12) 2 [.agg [.pv (.int .i64 v3.Lo), .pv (.int .i64 v3.Hi)]] rfl ?_
      refine dl (t := 13) 3 [.c (.pv (.sl (List.map e_itv_Itv [v3])))] rfl ?_
      obtain ⟨v4, k5, h⟩ := bindE h
      refine d_append (env1 := [(9, [.c (.pv (.bool (decide (x2.1 < a0.Tags))))]), (2, [.c (.box 1 0)]), (3, [.c (.box 2 0)]), (7, [.c (.pv (.int .i64 a0.Tags))]), (8, [.c (.pv (.int .i64 x2.1))])]) (T1 := [⟨3, some 13, [.c (.pv (.sl (List.map e_itv_Itv [v3])))], .light⟩, ⟨2, some 12, [.agg [.pv (.int .i64 v3.Lo), .pv (.int .i64 v3.Hi)]], .light⟩, ⟨1, some 11, [.c (.any)], .light⟩, ⟨0, some 10, [.c (.box 2 2)], .light⟩]) (st' := [none, some (.box true 75 [.pv (.int .i64 0), .pv (.int .i64 0), .emp]), some (.box true 75 [.pv (.int .i64 v1.Lo), .pv (.int .i64 v1.Hi), .any]), some (.row true true 53 2 (List.map e_itv_Itv v4))]) (wm [0, 1, 0, 4, 15, 31, 63]) 4 rfl (by kernel_rfl) (by kernel_rfl) (by kernel_rfl) (by kernel_rfl) (by kernel_rfl) (gi0 rfl) (oL [] rfl (by kernel_rfl) (fl_slice (List.map e_itv_Itv [v3]) rfl sl40 rfl rfl rfl rfl rfl rfl rfl) (oL [] rfl (by kernel_rfl) (fl_call rfl Try.call22 rfl (by kernel_rfl) (by kernel_rfl) (itv_None_meets k4)) (oE tbok [] 2 (by kernel_rfl) trivial))) rfl rfl rfl u40 te53 (by decide) rfl rfl rfl (.sl _) (ys := List.map e_itv_Itv [v3]) rfl (app_len k5) rfl rfl (app_set (e := e_itv_Itv) k5 (by rfl)) ?_
      refine dl (t := 15) 5 [.c (.box 2 2)] rfl ?_
      refine d_store (wm [0, 1, 0, 4, 15, 31, 63]) 6 rfl (by kernel_rfl) (by kernel_rfl) (by kernel_rfl) (by kernel_rfl) (by kernel_rfl) (gi0 rfl) (oE tbok [] 1 (by kernel_rfl) (oN 5 (by kernel_rfl) trivial)) rfl rfl ty40 rfl rfl rfl rfl rfl rfl (putE 1 (.cons (.s (.s .z)) .nil) rfl (by decide)) (SetAt.eq (.s (.s .z))) ?_
      refine d_endS (env2 := [(2, [.c (.box 1 0)]), (3, [.c (.box 2 0)]), (7, [.c (.pv (.int .i64 a0.Tags))]), (8, [.c (.pv (.int .i64 x2.1))])]) (wm [0, 1, 0, 4, 15, 31, 63]) (by kernel_rfl) (by kernel_rfl) (by kernel_rfl) (oN 7 (by kernel_rfl) trivial) (sub_cons rfl (sub_cons rfl (sub_cons rfl (sub_cons rfl sub_nil)))) (wB wT) ?_
      refine bN ?_
      refine then_ ?_
      refine region_ ?_
      refine R tbok 2 [8, 2, 3, 7] [(8, [.c (.pv (.int .i64 (IntKind.i64.wrap (x2.1 + 1))))]), (2, [.c (.box 1 0)]), (3, [.c (.box 2 0)]), (7, [.c (.pv (.int .i64 a0.Tags))])] (by kernel_rfl) ?_
      refine ops_nil ?_
      obtain rfl := retE h
      refine lN ?_
      refine w_sub (env' := [(2, [.c (.box 1 0)]), (3, [.c (.box 2 0)]), (7, [.c (.pv (.int .i64 a0.Tags))]), (8, [.c (.pv (.int .i64 (IntKind.i64.wrap (x2.1 + 1))))])]) (sub_cons rfl (sub_cons rfl (sub_cons rfl (sub_cons rfl sub_nil)))) ?_
      exact wkE (by kernel_rfl) (by kernel_rfl)
    · have h := iteF h k2
      refine exit_ ?_
      refine tX ?_
      obtain rfl := retE h
      refine lX ?_
      refine w_sub (env' := [(2, [.c (.box 1 0)]), (3, [.c (.box 2 0)])]) (sub_cons rfl (sub_cons rfl sub_nil)) ?_
      exact wkE (by kernel_rfl) (by kernel_rfl)
  · cases h
  · have h := elimR h
    refine then_ ?_
    refine seq_ ?_
    refine region_ ?_
    refine R tbok 1 [17, 2] [(17, [.agg [.pv (.int .i64 v1.Lo), .pv (.int .i64 v1.Hi), .row 3]]), (2, [.c (.box 1 0)])] (by kernel_rfl) ?_
    refine S rfl rfl rfl ty75 (by decide) rfl rfl rfl rfl rfl (.all rfl) (.s .z) ?_
    refine ops_nil ?_
    refine then_ ?_
    refine ret_ ?_
    obtain rfl := retE h
    refine rwr (rw_ (.cellA (ys := [.pv (.int .i64 v1.Lo), .pv (.int .i64 v1.Hi), .row 3]) ty75 rfl rfl (by kernel_rfl) (by kernel_rfl) .nil) ?_)
    refine (w_freeze (b := 3) (env' := [(0, [.agg [.pv (.int .i64 v1.Lo), .pv (.int .i64 v1.Hi), .pv (.sl (List.map e_itv_Itv j2))]])]) (st' := [none, some (.box true 75 [.pv (.int .i64 v1.Lo), .pv (.int .i64 v1.Hi), .pv (.sl (List.map e_itv_Itv j2))]), some (.box true 75 [.pv (.int .i64 v1.Lo), .pv (.int .i64 v1.Hi), .pv (.sl (List.map e_itv_Itv j2))]), none]) rfl rfl rfl ?_)
    refine w_none 1 (.s .z) ?_
    refine w_none 2 (.s (.s .z)) ?_
    refine w_cut 0 rfl rfl rfl rfl ?_
    exact wkE (by kernel_rfl) (by kernel_rfl)

theorem bits_Mul64_meets {a0 : Int} {a1 : Int} {r : (Int × Int)} (h : bits_Mul64 a0 a1 = some r) : MeetsV Try.prog GG 69 [.c (.pv (.int .u64 a0)), .c (.pv (.int .u64 a1))] [.c (.pv (.int .u64 r.1)), .c (.pv (.int .u64 r.2))] := by
  refine MeetsS.toV (meetsW_of (st0 := []) (N := 51) r_bits_Mul64 o_bits_Mul64 r Try.func69 rfl rfl rfl (by dsimp only [argEnv]) rfl ?_) rfl
  unfold bits_Mul64 at h
  refine seq_ ?_
  refine region_ ?_
  refine R tbok 2 [5, 4, 0, 1] [(5, [.c (.pv (.int .u64 0))]), (4, [.c (.pv (.int .u64 0))]), (0, [.c (.pv (.int .u64 a0))]), (1, [.c (.pv (.int .u64 a1))])] (by kernel_rfl) ?_
  refine ops_nil ?_
  refine then_ ?_
  refine seq_ ?_
  refine region_ ?_
  refine R tbok 3 [6, 5, 4, 0, 1] [(6, [.c (.pv (.int .u64 (IntKind.u64.wrap (BitVec.ofInt IntKind.u64.bits a0 &&& BitVec.ofInt IntKind.u64.bits 4294967295).toNat)))]), (5, [.c (.pv (.int .u64 0))]), (4, [.c (.pv (.int .u64 0))]), (0, [.c (.pv (.int .u64 a0))]), (1, [.c (.pv (.int .u64 a1))])] (by kernel_rfl) ?_
  refine ops_nil ?_
  refine then_ ?_
  refine seq_ ?_
  refine region_ ?_
  refine R tbok 1 [16, 6, 5, 4, 0, 1] [(16, [.c (.pv (.int .u64 a0))]), (6, [.c (.pv (.int .u64 (IntKind.u64.wrap (BitVec.ofInt IntKind.u64.bits a0 &&& BitVec.ofInt IntKind.u64.bits 4294967295).toNat)))]), (5, [.c (.pv (.int .u64 0))]), (4, [.c (.pv (.int .u64 0))]), (0, [.c (.pv (.int .u64 a0))]), (1, [.c (.pv (.int .u64 a1))])] (by kernel_rfl) ?_
  obtain ⟨v1, k1, h⟩ := bindE h
  refine L rfl rfl (shr_ rfl rfl rfl k1) rfl ?_
  refine R tbok 1 [7, 6, 5, 4, 0, 1] [(7, [.c (.pv (.int .u64 v1))]), (6, [.c (.pv (.int .u64 (IntKind.u64.wrap (BitVec.ofInt IntKind.u64.bits a0 &&& BitVec.ofInt IntKind.u64.bits 4294967295).toNat)))]), (5, [.c (.pv (.int .u64 0))]), (4, [.c (.pv (.int .u64 0))]), (0, [.c (.pv (.int .u64 a0))]), (1, [.c (.pv (.int .u64 a1))])] (by kernel_rfl) ?_
  refine ops_nil ?_
  refine then_ ?_
  refine seq_ ?_
  refine region_ ?_
  refine R tbok 3 [8, 7, 6, 5, 4, 0, 1] [(8, [.c (.pv (.int .u64 (IntKind.u64.wrap (BitVec.ofInt IntKind.u64.bits a1 &&& BitVec.ofInt IntKind.u64.bits 4294967295).toNat)))]), (7, [.c (.pv (.int .u64 v1))]), (6, [.c (.pv (.int .u64 (IntKind.u64.wrap (BitVec.ofInt IntKind.u64.bits a0 &&& BitVec.ofInt IntKind.u64.bits 4294967295).toNat)))]), (5, [.c (.pv (.int .u64 0))]), (4, [.c (.pv (.int .u64 0))]), (0, [.c (.pv (.int .u64 a0))]), (1, [.c (.pv (.int .u64 a1))])] (by kernel_rfl) ?_
  refine ops_nil ?_
  refine then_ ?_
  refine seq_ ?_
  refine region_ ?_
  refine R tbok 1 [20, 8, 7, 6, 5, 4, 0, 1] [(20, [.c (.pv (.int .u64 a1))]), (8, [.c (.pv (.int .u64 (IntKind.u64.wrap (BitVec.ofInt IntKind.u64.bits a1 &&& BitVec.ofInt IntKind.u64.bits 4294967295).toNat)))]), (7, [.c (.pv (.int .u64 v1))]), (6, [.c (.pv (.int .u64 (IntKind.u64.wrap (BitVec.ofInt IntKind.u64.bits a0 &&& BitVec.ofInt IntKind.u64.bits 4294967295).toNat)))]), (5, [.c (.pv (.int .u64 0))]), (4, [.c (.pv (.int .u64 0))]), (0, [.c (.pv (.int .u64 a0))]), (1, [.c (.pv (.int .u64 a1))])] (by kernel_rfl) ?_
  obtain ⟨v2, k2, h⟩ := bindE h
  refine L rfl rfl (shr_ rfl rfl rfl k2) rfl ?_
  refine R tbok 1 [9, 8, 7, 6, 5, 4, 0, 1] [(9, [.c (.pv (.int .u64 v2))]), (8, [.c (.pv (.int .u64 (IntKind.u64.wrap (BitVec.ofInt IntKind.u64.bits a1 &&& BitVec.ofInt IntKind.u64.bits 4294967295).toNat)))]), (7, [.c (.pv (.int .u64 v1))]), (6, [.c (.pv (.int .u64 (IntKind.u64.wrap (BitVec.ofInt IntKind.u64.bits a0 &&& BitVec.ofInt IntKind.u64.bits 4294967295).toNat)))]), (5, [.c (.pv (.int .u64 0))]), (4, [.c (.pv (.int .u64 0))]), (0, [.c (.pv (.int .u64 a0))]), (1, [.c (.pv (.int .u64 a1))])] (by kernel_rfl) ?_
  refine ops_nil ?_
  refine then_ ?_
  refine seq_ ?_
  refine region_ ?_
  refine R tbok 4 [10, 9, 8, 7, 6, 5, 4, 0, 1] [(10, [.c (.pv (.int .u64 (IntKind.u64.wrap ((IntKind.u64.wrap (BitVec.ofInt IntKind.u64.bits a0 &&& BitVec.ofInt IntKind.u64.bits 4294967295).toNat) * (IntKind.u64.wrap (BitVec.ofInt IntKind.u64.bits a1 &&& BitVec.ofInt IntKind.u64.bits 4294967295).toNat)))))]), (9, [.c (.pv (.int .u64 v2))]), (8, [.c (.pv (.int .u64 (IntKind.u64.wrap (BitVec.ofInt IntKind.u64.bits a1 &&& BitVec.ofInt IntKind.u64.bits 4294967295).toNat)))]), (7, [.c (.pv (.int .u64 v1))]), (6, [.c (.pv (.int .u64 (IntKind.u64.wrap (BitVec.ofInt IntKind.u64.bits a0 &&& BitVec.ofInt IntKind.u64.bits 4294967295).toNat)))]), (5, [.c (.pv (.int .u64 0))]), (4, [.c (.pv (.int .u64 0))]), (0, [.c (.pv (.int .u64 a0))]), (1, [.c (.pv (.int .u64 a1))])] (by kernel_rfl) ?_
  refine ops_nil ?_
  refine then_ ?_
  refine seq_ ?_
  refine region_ ?_
  refine R tbok 4 [28, 27, 9, 7, 6, 5, 4, 0, 1] [(28, [.c (.pv (.int .u64 (IntKind.u64.wrap ((IntKind.u64.wrap (BitVec.ofInt IntKind.u64.bits a0 &&& BitVec.ofInt IntKind.u64.bits 4294967295).toNat) * (IntKind.u64.wrap (BitVec.ofInt IntKind.u64.bits a1 &&& BitVec.ofInt IntKind.u64.bits 4294967295).toNat)))))]), (27, [.c (.pv (.int .u64 (IntKind.u64.wrap (v1 * (IntKind.u64.wrap (BitVec.ofInt IntKind.u64.bits a1 &&& BitVec.ofInt IntKind.u64.bits 4294967295).toNat)))))]), (9, [.c (.pv (.int .u64 v2))]), (7, [.c (.pv (.int .u64 v1))]), (6, [.c (.pv (.int .u64 (IntKind.u64.wrap (BitVec.ofInt IntKind.u64.bits a0 &&& BitVec.ofInt IntKind.u64.bits 4294967295).toNat)))]), (5, [.c (.pv (.int .u64 0))]), (4, [.c (.pv (.int .u64 0))]), (0, [.c (.pv (.int .u64 a0))]), (1, [.c (.pv (.int .u64 a1))])] (by kernel_rfl) ?_
  obtain ⟨v3, k3, h⟩ := bindE h
  refine L rfl rfl (shr_ rfl rfl rfl k3) rfl ?_
  refine R tbok 2 [11, 9, 7, 6, 5, 4, 0, 1] [(11, [.c (.pv (.int .u64 (IntKind.u64.wrap ((IntKind.u64.wrap (v1 * (IntKind.u64.wrap (BitVec.ofInt IntKind.u64.bits a1 &&& BitVec.ofInt IntKind.u64.bits 4294967295).toNat))) + v3))))]), (9, [.c (.pv (.int .u64 v2))]), (7, [.c (.pv (.int .u64 v1))]), (6, [.c (.pv (.int .u64 (IntKind.u64.wrap (BitVec.ofInt IntKind.u64.bits a0 &&& BitVec.ofInt IntKind.u64.bits 4294967295).toNat)))]), (5, [.c (.pv (.int .u64 0))]), (4, [.c (.pv (.int .u64 0))]), (0, [.c (.pv (.int .u64 a0))]), (1, [.c (.pv (.int .u64 a1))])] (by kernel_rfl) ?_
  refine ops_nil ?_
  refine then_ ?_
  refine seq_ ?_
  refine region_ ?_
  refine R tbok 3 [12, 11, 9, 7, 6, 5, 4, 0, 1] [(12, [.c (.pv (.int .u64 (IntKind.u64.wrap (BitVec.ofInt IntKind.u64.bits (IntKind.u64.wrap ((IntKind.u64.wrap (v1 * (IntKind.u64.wrap (BitVec.ofInt IntKind.u64.bits a1 &&& BitVec.ofInt IntKind.u64.bits 4294967295).toNat))) + v3)) &&& BitVec.ofInt IntKind.u64.bits 4294967295).toNat)))]), (11, [.c (.pv (.int .u64 (IntKind.u64.wrap ((IntKind.u64.wrap (v1 * (IntKind.u64.wrap (BitVec.ofInt IntKind.u64.bits a1 &&& BitVec.ofInt IntKind.u64.bits 4294967295).toNat))) + v3))))]), (9, [.c (.pv (.int .u64 v2))]), (7, [.c (.pv (.int .u64 v1))]), (6, [.c (.pv (.int .u64 (IntKind.u64.wrap (BitVec.ofInt IntKind.u64.bits a0 &&& BitVec.ofInt IntKind.u64.bits 4294967295).toNat)))]), (5, [.c (.pv (.int .u64 0))]), (4, [.c (.pv (.int .u64 0))]), (0, [.c (.pv (.int .u64 a0))]), (1, [.c (.pv (.int .u64 a1))])] (by kernel_rfl) ?_
  refine ops_nil ?_
  refine then_ ?_
  refine seq_ ?_
  refine region_ ?_
  refine R tbok 1 [33, 12, 9, 7, 6, 5, 4, 0, 1] [(33, [.c (.pv (.int .u64 (IntKind.u64.wrap ((IntKind.u64.wrap (v1 * (IntKind.u64.wrap (BitVec.ofInt IntKind.u64.bits a1 &&& BitVec.ofInt IntKind.u64.bits 4294967295).toNat))) + v3))))]), (12, [.c (.pv (.int .u64 (IntKind.u64.wrap (BitVec.ofInt IntKind.u64.bits (IntKind.u64.wrap ((IntKind.u64.wrap (v1 * (IntKind.u64.wrap (BitVec.ofInt IntKind.u64.bits a1 &&& BitVec.ofInt IntKind.u64.bits 4294967295).toNat))) + v3)) &&& BitVec.ofInt IntKind.u64.bits 4294967295).toNat)))]), (9, [.c (.pv (.int .u64 v2))]), (7, [.c (.pv (.int .u64 v1))]), (6, [.c (.pv (.int .u64 (IntKind.u64.wrap (BitVec.ofInt IntKind.u64.bits a0 &&& BitVec.ofInt IntKind.u64.bits 4294967295).toNat)))]), (5, [.c (.pv (.int .u64 0))]), (4, [.c (.pv (.int .u64 0))]), (0, [.c (.pv (.int .u64 a0))]), (1, [.c (.pv (.int .u64 a1))])] (by kernel_rfl) ?_
  obtain ⟨v4, k4, h⟩ := bindE h
  refine L rfl rfl (shr_ rfl rfl rfl k4) rfl ?_
  refine R tbok 1 [13, 12, 9, 7, 6, 5, 4, 0, 1] [(13, [.c (.pv (.int .u64 v4))]), (12, [.c (.pv (.int .u64 (IntKind.u64.wrap (BitVec.ofInt IntKind.u64.bits (IntKind.u64.wrap ((IntKind.u64.wrap (v1 * (IntKind.u64.wrap (BitVec.ofInt IntKind.u64.bits a1 &&& BitVec.ofInt IntKind.u64.bits 4294967295).toNat))) + v3)) &&& BitVec.ofInt IntKind.u64.bits 4294967295).toNat)))]), (9, [.c (.pv (.int .u64 v2))]), (7, [.c (.pv (.int .u64 v1))]), (6, [.c (.pv (.int .u64 (IntKind.u64.wrap (BitVec.ofInt IntKind.u64.bits a0 &&& BitVec.ofInt IntKind.u64.bits 4294967295).toNat)))]), (5, [.c (.pv (.int .u64 0))]), (4, [.c (.pv (.int .u64 0))]), (0, [.c (.pv (.int .u64 a0))]), (1, [.c (.pv (.int .u64 a1))])] (by kernel_rfl) ?_
  refine ops_nil ?_
  refine then_ ?_
  refine seq_ ?_
  refine region_ ?_
  refine R tbok 6 [12, 13, 9, 7, 5, 4, 0, 1] [(12, [.c (.pv (.int .u64 (IntKind.u64.wrap ((IntKind.u64.wrap (BitVec.ofInt IntKind.u64.bits (IntKind.u64.wrap ((IntKind.u64.wrap (v1 * (IntKind.u64.wrap (BitVec.ofInt IntKind.u64.bits a1 &&& BitVec.ofInt IntKind.u64.bits 4294967295).toNat))) + v3)) &&& BitVec.ofInt IntKind.u64.bits 4294967295).toNat) + (IntKind.u64.wrap ((IntKind.u64.wrap (BitVec.ofInt IntKind.u64.bits a0 &&& BitVec.ofInt IntKind.u64.bits 4294967295).toNat) * v2))))))]), (13, [.c (.pv (.int .u64 v4))]), (9, [.c (.pv (.int .u64 v2))]), (7, [.c (.pv (.int .u64 v1))]), (5, [.c (.pv (.int .u64 0))]), (4, [.c (.pv (.int .u64 0))]), (0, [.c (.pv (.int .u64 a0))]), (1, [.c (.pv (.int .u64 a1))])] (by kernel_rfl) ?_
  refine ops_nil ?_
  refine then_ ?_
  refine seq_ ?_
  refine region_ ?_
  refine R tbok 6 [45, 44, 5, 4, 0, 1] [(45, [.c (.pv (.int .u64 (IntKind.u64.wrap ((IntKind.u64.wrap (BitVec.ofInt IntKind.u64.bits (IntKind.u64.wrap ((IntKind.u64.wrap (v1 * (IntKind.u64.wrap (BitVec.ofInt IntKind.u64.bits a1 &&& BitVec.ofInt IntKind.u64.bits 4294967295).toNat))) + v3)) &&& BitVec.ofInt IntKind.u64.bits 4294967295).toNat) + (IntKind.u64.wrap ((IntKind.u64.wrap (BitVec.ofInt IntKind.u64.bits a0 &&& BitVec.ofInt IntKind.u64.bits 4294967295).toNat) * v2))))))]), (44, [.c (.pv (.int .u64 (IntKind.u64.wrap ((IntKind.u64.wrap (v1 * v2)) + v4))))]), (5, [.c (.pv (.int .u64 0))]), (4, [.c (.pv (.int .u64 0))]), (0, [.c (.pv (.int .u64 a0))]), (1, [.c (.pv (.int .u64 a1))])] (by kernel_rfl) ?_
  obtain ⟨v5, k5, h⟩ := bindE h
  refine L rfl rfl (shr_ rfl rfl rfl k5) rfl ?_
  refine R tbok 2 [4, 5, 0, 1] [(4, [.c (.pv (.int .u64 (IntKind.u64.wrap ((IntKind.u64.wrap ((IntKind.u64.wrap (v1 * v2)) + v4)) + v5))))]), (5, [.c (.pv (.int .u64 0))]), (0, [.c (.pv (.int .u64 a0))]), (1, [.c (.pv (.int .u64 a1))])] (by kernel_rfl) ?_
  refine ops_nil ?_
  refine then_ ?_
  refine seq_ ?_
  refine region_ ?_
  refine R tbok 4 [5, 4] [(5, [.c (.pv (.int .u64 (IntKind.u64.wrap (a0 * a1))))]), (4, [.c (.pv (.int .u64 (IntKind.u64.wrap ((IntKind.u64.wrap ((IntKind.u64.wrap (v1 * v2)) + v4)) + v5))))])] (by kernel_rfl) ?_
  refine ops_nil ?_
  refine then_ ?_
  refine ret_ ?_
  obtain rfl := retE h
  refine rwr (rw_ (.tmp rfl (.tmp rfl .nil)) ?_)
  exact wkE (by kernel_rfl) (by kernel_rfl)

theorem bits_Mul_meets {a0 : Int} {a1 : Int} {r : (Int × Int)} (h : bits_Mul a0 a1 = some r) : MeetsV Try.prog GG 50 [.c (.pv (.int .u64 a0)), .c (.pv (.int .u64 a1))] [.c (.pv (.int .u64 r.1)), .c (.pv (.int .u64 r.2))] := by
  refine MeetsS.toV (meetsW_of (st0 := []) (N := 30) r_bits_Mul o_bits_Mul r Try.func50 rfl rfl rfl (by dsimp only [argEnv]) rfl ?_) rfl
  unfold bits_Mul at h
  refine seq_ ?_
  refine region_ ?_
  refine R tbok 2 [5, 4, 0, 1] [(5, [.c (.pv (.int .u64 0))]), (4, [.c (.pv (.int .u64 0))]), (0, [.c (.pv (.int .u64 a0))]), (1, [.c (.pv (.int .u64 a1))])] (by kernel_rfl) ?_
  refine ops_nil ?_
  refine then_ ?_
  refine seq_ ?_
  refine iF rfl rfl ?_
  refine skip_ ?_
  refine then_ ?_
  refine seq_ ?_
  refine region_ ?_
  refine R tbok 2 [24, 23, 5, 4] [(24, [.c (.pv (.int .u64 a1))]), (23, [.c (.pv (.int .u64 a0))]), (5, [.c (.pv (.int .u64 0))]), (4, [.c (.pv (.int .u64 0))])] (by kernel_rfl) ?_
  obtain ⟨v1, k1, h⟩ := bindE h
  refine C rfl rfl (fl_call rfl Try.call69 rfl (by kernel_rfl) (by kernel_rfl) (bits_Mul64_meets k1)) rfl ?_
  refine R tbok 5 [9, 8, 5, 4] [(9, [.c (.pv (.int .u64 v1.2))]), (8, [.c (.pv (.int .u64 v1.1))]), (5, [.c (.pv (.int .u64 0))]), (4, [.c (.pv (.int .u64 0))])] (by kernel_rfl) ?_
  refine ops_nil ?_
  refine then_ ?_
  refine seq_ ?_
  refine region_ ?_
  refine R tbok 4 [5, 4] [(5, [.c (.pv (.int .u64 v1.2))]), (4, [.c (.pv (.int .u64 v1.1))])] (by kernel_rfl) ?_
  refine ops_nil ?_
  refine then_ ?_
  refine ret_ ?_
  obtain rfl := retE h
  refine rwr (rw_ (.tmp rfl (.tmp rfl .nil)) ?_)
  exact wkE (by kernel_rfl) (by kernel_rfl)

theorem slices_Repeat_bool_bool__meets {a0 : (List Bool)} {a1 : Int} {r : (List Bool)} (h : slices_Repeat_bool_bool_ a0 a1 = some r) : MeetsS Try.prog GG 29 [.c (.pv (.sl (List.map e_bool a0))), .c (.pv (.int .i64 a1))] [] [.c (.row 0)] [some (.row true true 4 1 (List.map e_bool r))] := by
  refine meetsW_of (N := 48) r_slices_Repeat_bool_bool_ o_slices_Repeat_bool_bool_ r Try.func29 rfl rfl rfl (by dsimp only [argEnv]) rfl ?_
  unfold slices_Repeat_bool_bool_ at h
  refine seq_ ?_
  refine region_ ?_
  refine R tbok 1 [4, 0, 1] [(4, [.c (.emp)]), (0, [.c (.pv (.sl (List.map e_bool a0)))]), (1, [.c (.pv (.int .i64 a1))])] (by kernel_rfl) ?_
  refine ops_nil ?_
  refine then_ ?_
  refine seq_ ?_
  refine seq_ ?_
  refine region_ ?_
  refine R tbok 2 [10, 4, 0, 1] [(10, [.c (.pv (.bool (decide (a1 < 0))))]), (4, [.c (.emp)]), (0, [.c (.pv (.sl (List.map e_bool a0)))]), (1, [.c (.pv (.int .i64 a1))])] (by kernel_rfl) ?_
  refine ops_nil ?_
  refine then_ ?_
  refine cond_ (b := (decide (a1 < 0))) rfl (fun k1 => ?_) (fun k1 => ?_)
  · have h := iteT h k1
    cases h
  · have h := iteF h k1
    refine skip_ ?_
    refine then_ ?_
    refine seq_ ?_
    refine region_ ?_
    refine R tbok 1 [13, 4, 0, 1] [(13, [.c (.pv (.sl (List.map e_bool a0)))]), (4, [.c (.emp)]), (0, [.c (.pv (.sl (List.map e_bool a0)))]), (1, [.c (.pv (.int .i64 a1))])] (by kernel_rfl) ?_
    refine L rfl rfl (len_sl (e := e_bool) rfl u59 rfl) rfl ?_
    refine R tbok 3 [17, 15, 4, 0] [(17, [.c (.pv (.int .u64 (IntKind.u64.wrap a1)))]), (15, [.c (.pv (.int .u64 (IntKind.u64.wrap (a0.length : Int))))]), (4, [.c (.emp)]), (0, [.c (.pv (.sl (List.map e_bool a0)))])] (by kernel_rfl) ?_
    obtain ⟨v1, k2, h⟩ := bindE h
    refine C rfl rfl (fl_call rfl Try.call50 rfl (by kernel_rfl) (by kernel_rfl) (bits_Mul_meets k2)) rfl ?_
    refine R tbok 5 [6, 5, 4, 0] [(6, [.c (.pv (.int .u64 v1.2))]), (5, [.c (.pv (.int .u64 v1.1))]), (4, [.c (.emp)]), (0, [.c (.pv (.sl (List.map e_bool a0)))])] (by kernel_rfl) ?_
    refine ops_nil ?_
    refine then_ ?_
    refine seq_ ?_
    refine seq_ ?_
    refine jn_ (fun (j1 : Bool) => (⟨48, 0, [(0, [.c (.pv (.sl (List.map e_bool a0)))]), (4, [.c (.emp)]), (6, [.c (.pv (.int .u64 v1.2))]), (26, [.c (.pv (.bool j1))])], []⟩ : Sx)) h wT (fun o h => ?_) (fun j1 h => ?_)
    · refine region_ ?_
      refine R tbok 3 [23, 6, 4, 0] [(23, [.c (.pv (.bool (decide (v1.1 > 0))))]), (6, [.c (.pv (.int .u64 v1.2))]), (4, [.c (.emp)]), (0, [.c (.pv (.sl (List.map e_bool a0)))])] (by kernel_rfl) ?_
      refine (tf (decide (v1.1 > 0))).elim (fun k3 => ?_) (fun k3 => ?_)
      · have h := iteT h k3
        refine Ls0 rfl rfl rfl k3 rfl rfl ?_
        refine Ls0 rfl rfl rfl k3 rfl rfl ?_
        refine L rfl rfl (lt_pickT rfl rfl k3 rfl) rfl ?_
        refine ops_nil ?_
        obtain rfl := retE h
        refine mN ?_
        refine w_sub (env' := [(0, [.c (.pv (.sl (List.map e_bool a0)))]), (4, [.c (.emp)]), (6, [.c (.pv (.int .u64 v1.2))]), (26, [.c (.pv (.bool true))])]) (sub_cons rfl (sub_cons rfl (sub_cons rfl (sub_cons rfl sub_nil)))) ?_
        exact wkE (by kernel_rfl) (by kernel_rfl)
      · have h := iteF h k3
        refine Lg rfl rfl rfl k3 rfl (lt_move rfl rfl) rfl ?_
        refine Lg rfl rfl rfl k3 rfl (lt_int rfl rfl rfl rfl) rfl ?_
        refine L rfl rfl (lt_pickF rfl rfl k3 rfl) rfl ?_
        refine ops_nil ?_
        obtain rfl := retE h
        refine mN ?_
        refine w_sub (env' := [(0, [.c (.pv (.sl (List.map e_bool a0)))]), (4, [.c (.emp)]), (6, [.c (.pv (.int .u64 v1.2))]), (26, [.c (.pv (.bool (decide (v1.2 > 9223372036854775807))))])]) (sub_cons rfl (sub_cons rfl (sub_cons rfl (sub_cons rfl sub_nil)))) ?_
        exact wkE (by kernel_rfl) (by kernel_rfl)
    · refine then_ ?_
      refine cond_ (b := j1) rfl (fun k4 => ?_) (fun k4 => ?_)
      · have h := iteT h k4
        cases h
      · have h := iteF h k4
        refine skip_ ?_
        refine then_ ?_
        refine seq_ ?_
        refine region_ ?_
        refine R tbok 2 [29, 0, 4] [(29, [.c (.pv (.int .i64 (IntKind.i64.wrap v1.2)))]), (0, [.c (.pv (.sl (List.map e_bool a0)))]), (4, [.c (.emp)])] (by kernel_rfl) ?_
        obtain ⟨v2, k5, h⟩ := bindE h
        refine B rfl rfl (bir_makeE e_bool false rfl u59 te4 z4 rfl rfl rfl rfl k5) rfl rfl .z ?_
        refine R tbok 1 [7, 0, 4] [(7, [.c (.row 0)]), (0, [.c (.pv (.sl (List.map e_bool a0)))]), (4, [.c (.emp)])] (by kernel_rfl) ?_
        refine ops_nil ?_
        refine then_ ?_
        refine seq_ ?_
        refine region_ ?_
        refine R tbok 2 [32, 31, 7, 4] [(32, [.c (.pv (.sl (List.map e_bool a0)))]), (31, [.c (.row 0)]), (7, [.c (.row 0)]), (4, [.c (.emp)])] (by kernel_rfl) ?_
        refine cp_ e_bool (M := a0) rfl rfl rfl rfl u59 s1_4 rfl rfl rfl (.sl _) (fun _ => rfl) .z ?_
        refine R tbok 1 [8, 7, 4] [(8, [.c (.pv (.int .i64 (min (a0.length : Int) ((List.replicate v2 false).length : Int))))]), (7, [.c (.row 0)]), (4, [.c (.emp)])] (by kernel_rfl) ?_
        refine ops_nil ?_
        refine then_ ?_
        refine seq_ ?_
        refine lp_ (Qr := RW Try.prog GG Try.f29 0 r_slices_Repeat_bool_bool_ o_slices_Repeat_bool_bool_) (slices_Repeat_bool_bool__l2 a0 v2) (fun (x2 : Unit) => (⟨48, 0, [(7, [.c (.row 0)]), (8, [.c (.pv (.int .i64 (min (a0.length : Int) ((List.replicate v2 false).length : Int))))])], [some (.row true false 4 1 (List.map e_bool (cpy (List.replicate v2 false) a0)))]⟩ : Sx)) (fun (j2 : Unit) => (⟨48, 0, [(7, [.c (.row 0)])], [some (.row true false 4 1 (List.map e_bool (cpy (List.replicate v2 false) a0)))]⟩ : Sx)) () RW.only h wT ?_ (fun x2 o h => ?_) (fun r h s' hs => ?_) (fun j2 h => ?_)
        · refine w_sub (env' := [(7, [.c (.row 0)]), (8, [.c (.pv (.int .i64 (min (a0.length : Int) ((List.replicate v2 false).length : Int))))])]) (sub_cons rfl (sub_cons rfl sub_nil)) ?_
          exact wkE (by kernel_rfl) (by kernel_rfl)
        · unfold slices_Repeat_bool_bool__l2 at h
          refine seq_ ?_
          refine seq_ ?_
          refine region_ ?_
          refine R tbok 2 [35, 34, 7, 8] [(35, [.c (.row 0)]), (34, [.c (.pv (.int .i64 (min (a0.length : Int) ((List.replicate v2 false).length : Int))))]), (7, [.c (.row 0)]), (8, [.c (.pv (.int .i64 (min (a0.length : Int) ((List.replicate v2 false).length : Int))))])] (by kernel_rfl) ?_
          refine L rfl rfl (len_row (e := e_bool) rfl u59 rfl rfl) rfl ?_
          refine R tbok 1 [37, 7, 8] [(37, [.c (.pv (.bool (decide ((min (a0.length : Int) ((List.replicate v2 false).length : Int)) < ((cpy (List.replicate v2 false) a0).length : Int)))))]), (7, [.c (.row 0)]), (8, [.c (.pv (.int .i64 (min (a0.length : Int) ((List.replicate v2 false).length : Int))))])] (by kernel_rfl) ?_
          refine ops_nil ?_
          refine then_ ?_
          refine cond_ (b := (decide ((min (a0.length : Int) ((List.replicate v2 false).length : Int)) < ((cpy (List.replicate v2 false) a0).length : Int)))) rfl (fun k6 => ?_) (fun k6 => ?_)
          · have h := iteT h k6
            refine skip_ ?_
            refine then_ ?_
            refine block_ ?_
            cases h
          · have h := iteF h k6
            refine exit_ ?_
            refine tX ?_
            obtain rfl := retE h
            refine lX ?_
            refine w_sub (env' := [(7, [.c (.row 0)])]) (sub_cons rfl sub_nil) ?_
            exact wkE (by kernel_rfl) (by kernel_rfl)
        · cases h
        · have h := elimR h
          refine then_ ?_
          refine seq_ ?_
          refine region_ ?_
          refine R tbok 2 [4] [(4, [.c (.row 0)])] (by kernel_rfl) ?_
          refine ops_nil ?_
          refine then_ ?_
          refine ret_ ?_
          obtain rfl := retE h
          refine rwr (rw_ (.tmp rfl .nil) ?_)
          refine w_ch 0 rfl .z ?_
          exact wkE (by kernel_rfl) (by kernel_rfl)

theorem trans_Deaf_meets {a0 : flow_Sys} {r : (List Bool)} (h : trans_Deaf a0 = some r) : MeetsV Try.prog GG 14 [.agg [.pv (.sl (List.map e_check_Chan a0.Chans)), .pv (.sl (List.map e_flow_Graph a0.Graphs)), .pv (.sl (List.map e_i64 a0.Vars))]] [.c (.pv (.sl (List.map e_bool r)))] := by
  refine MeetsS.toV (meetsW_of (st0 := []) (N := 49) r_trans_Deaf o_trans_Deaf r Try.func14 rfl rfl rfl (by dsimp only [argEnv]) rfl ?_) rfl
  unfold trans_Deaf at h
  refine seq_ ?_
  refine region_ ?_
  refine B rfl rfl (bir_box rfl rfl rfl) rfl rfl .z ?_
  refine R tbok 1 [2, 1] [(2, [.c (.emp)]), (1, [.c (.box 0 0)])] (by kernel_rfl) ?_
  refine ops_nil ?_
  refine then_ ?_
  refine seq_ ?_
  refine region_ ?_
  refine C rfl rfl (fl_slice (List.map e_bool [true]) rfl sl59 rfl rfl rfl rfl rfl rfl rfl) rfl ?_
  refine R tbok 2 [10, 8, 2, 1] [(10, [.c (.pv (.sl (List.map e_check_Chan a0.Chans)))]), (8, [.c (.pv (.sl (List.map e_bool [true])))]), (2, [.c (.emp)]), (1, [.c (.box 0 0)])] (by kernel_rfl) ?_
  refine L rfl rfl (len_sl (e := e_check_Chan) rfl u37 rfl) rfl ?_
  obtain ⟨v1, k1, h⟩ := bindE h
  refine callS (env' := [(11, [.c (.pv (.int .i64 (a0.Chans.length : Int)))]), (10, [.c (.pv (.sl (List.map e_check_Chan a0.Chans)))]), (8, [.c (.pv (.sl (List.map e_bool [true])))]), (2, [.c (.emp)]), (1, [.c (.box 0 0)])]) (argsX' := [.c (.row 1)]) (st' := [some (.box true 39 [.pv (.sl (List.map e_check_Chan a0.Chans)), .pv (.sl (List.map e_flow_Graph a0.Graphs)), .pv (.sl (List.map e_i64 a0.Vars))]), some (.row true true 4 1 (List.map e_bool v1))]) [] [] rfl rfl rfl rfl Try.call29 rfl rfl (by kernel_rfl) (by kernel_rfl) (slices_Repeat_bool_bool__meets k1) (by kernel_rfl) (by kernel_rfl) (by kernel_rfl) ?_
  refine R tbok 1 [3, 2, 1] [(3, [.c (.row 1)]), (2, [.c (.emp)]), (1, [.c (.box 0 0)])] (by kernel_rfl) ?_
  refine ops_nil ?_
  refine then_ ?_
  refine seq_ ?_
  refine seq_ ?_
  refine region_ ?_
  refine R tbok 2 [14, 3, 2] [(14, [.c (.pv (.sl (List.map e_flow_Graph a0.Graphs)))]), (3, [.c (.row 1)]), (2, [.c (.emp)])] (by kernel_rfl) ?_
  refine L rfl rfl (len_sl (e := e_flow_Graph) rfl u36 rfl) rfl ?_
  refine R tbok 1 [16, 15, 14, 3, 2] [(16, [.c (.pv (.int .i64 0))]), (15, [.c (.pv (.int .i64 (a0.Graphs.length : Int)))]), (14, [.c (.pv (.sl (List.map e_flow_Graph a0.Graphs)))]), (3, [.c (.row 1)]), (2, [.c (.emp)])] (by kernel_rfl) ?_
  refine ops_nil ?_
  refine then_ ?_
  refine lp_ (Qr := RW Try.prog GG Try.f14 0 r_trans_Deaf o_trans_Deaf) (trans_Deaf_l1 a0) (fun (x1 : (Int × (List Bool))) => (⟨49, 0, [(3, [.c (.row 1)]), (14, [.c (.pv (.sl (List.map e_flow_Graph a0.Graphs)))]), (15, [.c (.pv (.int .i64 (a0.Graphs.length : Int)))]), (16, [.c (.pv (.int .i64 x1.1))])], [none, some (.row true true 4 1 (List.map e_bool x1.2))]⟩ : Sx)) (fun (j1 : (List Bool)) => (⟨49, 0, [(3, [.c (.row 1)])], [none, some (.row true true 4 1 (List.map e_bool j1))]⟩ : Sx)) (0, v1) RW.only h wT ?_ (fun x1 o h => ?_) (fun r h s' hs => ?_) (fun j1 h => ?_)
  · refine w_sub (env' := [(3, [.c (.row 1)]), (14, [.c (.pv (.sl (List.map e_flow_Graph a0.Graphs)))]), (15, [.c (.pv (.int .i64 (a0.Graphs.length : Int)))]), (16, [.c (.pv (.int .i64 0))])]) (sub_cons rfl (sub_cons rfl (sub_cons rfl (sub_cons rfl sub_nil)))) ?_
    refine w_none 0 .z ?_
    exact wkE (by kernel_rfl) (by kernel_rfl)
  · unfold trans_Deaf_l1 at h
    refine seq_ ?_
    refine region_ ?_
    refine R tbok 1 [17, 3, 14, 15, 16] [(17, [.c (.pv (.bool (decide (x1.1 < (a0.Graphs.length : Int)))))]), (3, [.c (.row 1)]), (14, [.c (.pv (.sl (List.map e_flow_Graph a0.Graphs)))]), (15, [.c (.pv (.int .i64 (a0.Graphs.length : Int)))]), (16, [.c (.pv (.int .i64 x1.1))])] (by kernel_rfl) ?_
    refine ops_nil ?_
    refine then_ ?_
    refine seq_ ?_
    refine cond_ (b := (decide (x1.1 < (a0.Graphs.length : Int)))) rfl (fun k2 => ?_) (fun k2 => ?_)
    · have h := iteT h k2
      refine skip_ ?_
      refine then_ ?_
      refine seq_ ?_
      refine block_ ?_
      refine seq_ ?_
      refine region_ ?_
      obtain ⟨v2, k3, h⟩ := bindE h
      refine L rfl rfl (ia_sl (e := e_flow_Graph) (y := v2) rfl u36 ty35 rfl rfl k3 rfl) rfl ?_
      refine R tbok 1 [19, 3, 14, 15, 16] [(19, [.agg [.pv (.int .i64 v2.Nodes), .pv (.sl (List.map e_flow_Edge v2.Edges)), .pv (.sl (List.map e_i64 v2.Heads))]]), (3, [.c (.row 1)]), (14, [.c (.pv (.sl (List.map e_flow_Graph a0.Graphs)))]), (15, [.c (.pv (.int .i64 (a0.Graphs.length : Int)))]), (16, [.c (.pv (.int .i64 x1.1))])] (by kernel_rfl) ?_
      refine B rfl rfl (bir_alloc rfl z35 rfl rfl) rfl rfl (.s (.s .z)) ?_
      refine S rfl rfl rfl ty35 (by decide) rfl rfl rfl rfl rfl (.all rfl) (.s (.s .z)) ?_
      refine ops_nil ?_
      refine then_ ?_
      refine seq_ ?_
      refine region_ ?_
      refine R tbok 2 [21, 3, 14, 15, 16] [(21, [.c (.pv (.sl (List.map e_flow_Edge v2.Edges)))]), (3, [.c (.row 1)]), (14, [.c (.pv (.sl (List.map e_flow_Graph a0.Graphs)))]), (15, [.c (.pv (.int .i64 (a0.Graphs.length : Int)))]), (16, [.c (.pv (.int .i64 x1.1))])] (by kernel_rfl) ?_
      refine L rfl rfl (len_sl (e := e_flow_Edge) rfl u32 rfl) rfl ?_
      refine R tbok 1 [23, 22, 21, 3, 14, 15, 16] [(23, [.c (.pv (.int .i64 0))]), (22, [.c (.pv (.int .i64 (v2.Edges.length : Int)))]), (21, [.c (.pv (.sl (List.map e_flow_Edge v2.Edges)))]), (3, [.c (.row 1)]), (14, [.c (.pv (.sl (List.map e_flow_Graph a0.Graphs)))]), (15, [.c (.pv (.int .i64 (a0.Graphs.length : Int)))]), (16, [.c (.pv (.int .i64 x1.1))])] (by kernel_rfl) ?_
      refine ops_nil ?_
      refine then_ ?_
      refine lp_ (Qr := RW Try.prog GG Try.f14 0 r_trans_Deaf o_trans_Deaf) (trans_Deaf_l2 v2) (fun (x2 : (Int × (List Bool))) => (⟨49, 0, [(3, [.c (.row 1)]), (14, [.c (.pv (.sl (List.map e_flow_Graph a0.Graphs)))]), (15, [.c (.pv (.int .i64 (a0.Graphs.length : Int)))]), (16, [.c (.pv (.int .i64 x1.1))]), (21, [.c (.pv (.sl (List.map e_flow_Edge v2.Edges)))]), (22, [.c (.pv (.int .i64 (v2.Edges.length : Int)))]), (23, [.c (.pv (.int .i64 x2.1))])], [none, some (.row true true 4 1 (List.map e_bool x2.2)), none]⟩ : Sx)) (fun (j2 : (List Bool)) => (⟨49, 0, [(3, [.c (.row 1)]), (14, [.c (.pv (.sl (List.map e_flow_Graph a0.Graphs)))]), (15, [.c (.pv (.int .i64 (a0.Graphs.length : Int)))]), (16, [.c (.pv (.int .i64 x1.1))])], [none, some (.row true true 4 1 (List.map e_bool j2))]⟩ : Sx)) (0, x1.2) RW.only h (wB wT) ?_ (fun x2 o h => ?_) (fun r h s' hs => ?_) (fun j2 h => ?_)
      · refine w_sub (env' := [(3, [.c (.row 1)]), (14, [.c (.pv (.sl (List.map e_flow_Graph a0.Graphs)))]), (15, [.c (.pv (.int .i64 (a0.Graphs.length : Int)))]), (16, [.c (.pv (.int .i64 x1.1))]), (21, [.c (.pv (.sl (List.map e_flow_Edge v2.Edges)))]), (22, [.c (.pv (.int .i64 (v2.Edges.length : Int)))]), (23, [.c (.pv (.int .i64 0))])]) (sub_cons rfl (sub_cons rfl (sub_cons rfl (sub_cons rfl (sub_cons rfl (sub_cons rfl (sub_cons rfl sub_nil))))))) ?_
        refine w_none 2 (.s (.s .z)) ?_
        exact wkE (by kernel_rfl) (by kernel_rfl)
      · unfold trans_Deaf_l2 at h
        refine seq_ ?_
        refine region_ ?_
        refine R tbok 1 [24, 3, 14, 15, 16, 21, 22, 23] [(24, [.c (.pv (.bool (decide (x2.1 < (v2.Edges.length : Int)))))]), (3, [.c (.row 1)]), (14, [.c (.pv (.sl (List.map e_flow_Graph a0.Graphs)))]), (15, [.c (.pv (.int .i64 (a0.Graphs.length : Int)))]), (16, [.c (.pv (.int .i64 x1.1))]), (21, [.c (.pv (.sl (List.map e_flow_Edge v2.Edges)))]), (22, [.c (.pv (.int .i64 (v2.Edges.length : Int)))]), (23, [.c (.pv (.int .i64 x2.1))])] (by kernel_rfl) ?_
        refine ops_nil ?_
        refine then_ ?_
        refine seq_ ?_
        refine cond_ (b := (decide (x2.1 < (v2.Edges.length : Int)))) rfl (fun k4 => ?_) (fun k4 => ?_)
        · have h := iteT h k4
          refine skip_ ?_
          refine then_ ?_
          refine seq_ ?_
          refine jn_ (fun (j3 : (List Bool)) => (⟨49, 0, [(3, [.c (.row 1)]), (14, [.c (.pv (.sl (List.map e_flow_Graph a0.Graphs)))]), (15, [.c (.pv (.int .i64 (a0.Graphs.length : Int)))]), (16, [.c (.pv (.int .i64 x1.1))]), (21, [.c (.pv (.sl (List.map e_flow_Edge v2.Edges)))]), (22, [.c (.pv (.int .i64 (v2.Edges.length : Int)))]), (23, [.c (.pv (.int .i64 x2.1))])], [none, some (.row true true 4 1 (List.map e_bool j3))]⟩ : Sx)) h wT (fun o h => ?_) (fun j3 h => ?_)
          · refine block_ ?_
            refine seq_ ?_
            refine region_ ?_
            obtain ⟨v3, k5, h⟩ := bindE h
            refine L rfl rfl (ia_sl (e := e_flow_Edge) (y := v3) rfl u32 ty31 rfl rfl k5 rfl) rfl ?_
            refine R tbok 1 [26, 3, 14, 15, 16, 21, 22, 23] [(26, [.agg (bs (e_flow_Edge v3))]), (3, [.c (.row 1)]), (14, [.c (.pv (.sl (List.map e_flow_Graph a0.Graphs)))]), (15, [.c (.pv (.int .i64 (a0.Graphs.length : Int)))]), (16, [.c (.pv (.int .i64 x1.1))]), (21, [.c (.pv (.sl (List.map e_flow_Edge v2.Edges)))]), (22, [.c (.pv (.int .i64 (v2.Edges.length : Int)))]), (23, [.c (.pv (.int .i64 x2.1))])] (by kernel_rfl) ?_
            refine B rfl rfl (bir_alloc rfl z31 rfl rfl) rfl rfl (.s (.s (.s .z))) ?_
            refine S rfl rfl rfl ty31 (by decide) rfl rfl rfl rfl rfl (.all rfl) (.s (.s (.s .z))) ?_
            refine ops_nil ?_
            refine then_ ?_
            refine seq_ ?_
            refine jn_ (fun (j4 : Bool) => (⟨49, 0, [(3, [.c (.row 1)]), (7, [.c (.box 3 0)]), (14, [.c (.pv (.sl (List.map e_flow_Graph a0.Graphs)))]), (15, [.c (.pv (.int .i64 (a0.Graphs.length : Int)))]), (16, [.c (.pv (.int .i64 x1.1))]), (21, [.c (.pv (.sl (List.map e_flow_Edge v2.Edges)))]), (22, [.c (.pv (.int .i64 (v2.Edges.length : Int)))]), (23, [.c (.pv (.int .i64 x2.1))]), (41, [.c (.pv (.bool j4))])], [none, some (.row true true 4 1 (List.map e_bool x2.2)), none, some (.box true 31 (bs (e_flow_Edge v3)))]⟩ : Sx)) h wT (fun o h => ?_) (fun j4 h => ?_)
            · refine region_ ?_
              refine R tbok 4 [30, 7, 3, 14, 15, 16, 21, 22, 23] [(30, [.c (.pv (.bool (v3.Kind == 4)))]), (7, [.c (.box 3 0)]), (3, [.c (.row 1)]), (14, [.c (.pv (.sl (List.map e_flow_Graph a0.Graphs)))]), (15, [.c (.pv (.int .i64 (a0.Graphs.length : Int)))]), (16, [.c (.pv (.int .i64 x1.1))]), (21, [.c (.pv (.sl (List.map e_flow_Edge v2.Edges)))]), (22, [.c (.pv (.int .i64 (v2.Edges.length : Int)))]), (23, [.c (.pv (.int .i64 x2.1))])] (by kernel_rfl) ?_
              refine (tf (v3.Kind == 4)).elim (fun k6 => ?_) (fun k6 => ?_)
              · have h := iteT h k6
                refine Lg rfl rfl rfl k6 rfl (lt_fa_box rfl f31_4 ty3 (by decide) rfl) rfl ?_
                refine Lg rfl rfl rfl k6 rfl (lt_load_box rfl ty3 rfl rfl rfl) rfl ?_
                refine Lg rfl rfl rfl k6 rfl (lt_int rfl rfl rfl rfl) rfl ?_
                refine L rfl rfl (lt_pickT rfl rfl k6 rfl) rfl ?_
                refine R tbok 1 [35, 7, 3, 14, 15, 16, 21, 22, 23] [(35, [.c (.pv (.bool (decide (v3.Chan ≥ 0))))]), (7, [.c (.box 3 0)]), (3, [.c (.row 1)]), (14, [.c (.pv (.sl (List.map e_flow_Graph a0.Graphs)))]), (15, [.c (.pv (.int .i64 (a0.Graphs.length : Int)))]), (16, [.c (.pv (.int .i64 x1.1))]), (21, [.c (.pv (.sl (List.map e_flow_Edge v2.Edges)))]), (22, [.c (.pv (.int .i64 (v2.Edges.length : Int)))]), (23, [.c (.pv (.int .i64 x2.1))])] (by kernel_rfl) ?_
                refine (tf (decide (v3.Chan ≥ 0))).elim (fun k7 => ?_) (fun k7 => ?_)
                · have h := iteT h k7
                  refine Lg rfl rfl rfl k7 rfl (lt_fa_box rfl f31_4 ty3 (by decide) rfl) rfl ?_
                  refine Lg rfl rfl rfl k7 rfl (lt_load_box rfl ty3 rfl rfl rfl) rfl ?_
                  refine Lg rfl rfl rfl k7 rfl (lt_move rfl rfl) rfl ?_
                  refine Lg rfl rfl rfl k7 rfl (len_row (e := e_bool) rfl u59 rfl rfl) rfl ?_
                  refine Lg rfl rfl rfl k7 rfl (lt_int rfl rfl rfl rfl) rfl ?_
                  refine L rfl rfl (lt_pickT rfl rfl k7 rfl) rfl ?_
                  refine ops_nil ?_
                  obtain rfl := retE h
                  refine mN ?_
                  refine w_sub (env' := [(3, [.c (.row 1)]), (7, [.c (.box 3 0)]), (14, [.c (.pv (.sl (List.map e_flow_Graph a0.Graphs)))]), (15, [.c (.pv (.int .i64 (a0.Graphs.length : Int)))]), (16, [.c (.pv (.int .i64 x1.1))]), (21, [.c (.pv (.sl (List.map e_flow_Edge v2.Edges)))]), (22, [.c (.pv (.int .i64 (v2.Edges.length : Int)))]), (23, [.c (.pv (.int .i64 x2.1))]), (41, [.c (.pv (.bool (decide (v3.Chan < (x2.2.length : Int)))))])]) (sub_cons rfl (sub_cons rfl (sub_cons rfl (sub_cons rfl (sub_cons rfl (sub_cons rfl (sub_cons rfl (sub_cons rfl (sub_cons rfl sub_nil))))))))) ?_
                  exact wkE (by kernel_rfl) (by kernel_rfl)
                · have h := iteF h k7
                  refine Ls0 rfl rfl rfl k7 rfl rfl ?_
                  refine Ls0 rfl rfl rfl k7 rfl rfl ?_
                  refine Ls0 rfl rfl rfl k7 rfl rfl ?_
                  refine Ls0 rfl rfl rfl k7 rfl rfl ?_
                  refine Ls0 rfl rfl rfl k7 rfl rfl ?_
                  refine L rfl rfl (lt_pickF rfl rfl k7 rfl) rfl ?_
                  refine ops_nil ?_
                  obtain rfl := retE h
                  refine mN ?_
                  refine w_sub (env' := [(3, [.c (.row 1)]), (7, [.c (.box 3 0)]), (14, [.c (.pv (.sl (List.map e_flow_Graph a0.Graphs)))]), (15, [.c (.pv (.int .i64 (a0.Graphs.length : Int)))]), (16, [.c (.pv (.int .i64 x1.1))]), (21, [.c (.pv (.sl (List.map e_flow_Edge v2.Edges)))]), (22, [.c (.pv (.int .i64 (v2.Edges.length : Int)))]), (23, [.c (.pv (.int .i64 x2.1))]), (41, [.c (.pv (.bool false))])]) (sub_cons rfl (sub_cons rfl (sub_cons rfl (sub_cons rfl (sub_cons rfl (sub_cons rfl (sub_cons rfl (sub_cons rfl (sub_cons rfl sub_nil))))))))) ?_
                  exact wkE (by kernel_rfl) (by kernel_rfl)
              · have h := iteF h k6
                refine Ls0 rfl rfl rfl k6 rfl rfl ?_
                refine Ls0 rfl rfl rfl k6 rfl rfl ?_
                refine Ls0 rfl rfl rfl k6 rfl rfl ?_
                refine L rfl rfl (lt_pickF rfl rfl k6 rfl) rfl ?_
                refine R tbok 1 [35, 7, 3, 14, 15, 16, 21, 22, 23] [(35, [.c (.pv (.bool false))]), (7, [.c (.box 3 0)]), (3, [.c (.row 1)]), (14, [.c (.pv (.sl (List.map e_flow_Graph a0.Graphs)))]), (15, [.c (.pv (.int .i64 (a0.Graphs.length : Int)))]), (16, [.c (.pv (.int .i64 x1.1))]), (21, [.c (.pv (.sl (List.map e_flow_Edge v2.Edges)))]), (22, [.c (.pv (.int .i64 (v2.Edges.length : Int)))]), (23, [.c (.pv (.int .i64 x2.1))])] (by kernel_rfl) ?_
                refine Ls0 rfl rfl rfl rfl rfl rfl ?_
                refine Ls0 rfl rfl rfl rfl rfl rfl ?_
                refine Ls0 rfl rfl rfl rfl rfl rfl ?_
                refine Ls0 rfl rfl rfl rfl rfl rfl ?_
                refine Ls0 rfl rfl rfl rfl rfl rfl ?_
                refine L rfl rfl (lt_pickF rfl rfl rfl rfl) rfl ?_
                refine ops_nil ?_
                obtain rfl := retE h
                refine mN ?_
                refine w_sub (env' := [(3, [.c (.row 1)]), (7, [.c (.box 3 0)]), (14, [.c (.pv (.sl (List.map e_flow_Graph a0.Graphs)))]), (15, [.c (.pv (.int .i64 (a0.Graphs.length : Int)))]), (16, [.c (.pv (.int .i64 x1.1))]), (21, [.c (.pv (.sl (List.map e_flow_Edge v2.Edges)))]), (22, [.c (.pv (.int .i64 (v2.Edges.length : Int)))]), (23, [.c (.pv (.int .i64 x2.1))]), (41, [.c (.pv (.bool false))])]) (sub_cons rfl (sub_cons rfl (sub_cons rfl (sub_cons rfl (sub_cons rfl (sub_cons rfl (sub_cons rfl (sub_cons rfl (sub_cons rfl sub_nil))))))))) ?_
                exact wkE (by kernel_rfl) (by kernel_rfl)
            · refine then_ ?_
              refine cond_ (b := j4) rfl (fun k8 => ?_) (fun k8 => ?_)
              · have h := iteT h k8
                refine region_ ?_
                refine R tbok 3 [44, 42, 3, 14, 15, 16, 21, 22, 23] [(44, [.c (.pv (.int .i64 v3.Chan))]), (42, [.c (.row 1)]), (3, [.c (.row 1)]), (14, [.c (.pv (.sl (List.map e_flow_Graph a0.Graphs)))]), (15, [.c (.pv (.int .i64 (a0.Graphs.length : Int)))]), (16, [.c (.pv (.int .i64 x1.1))]), (21, [.c (.pv (.sl (List.map e_flow_Edge v2.Edges)))]), (22, [.c (.pv (.int .i64 (v2.Edges.length : Int)))]), (23, [.c (.pv (.int .i64 x2.1))])] (by kernel_rfl) ?_
                obtain ⟨v4, k9, h⟩ := bindE h
                refine L rfl rfl (ia_row (e := e_bool) rfl u59 ty4 rfl rfl rfl k9) rfl ?_
                refine storeR_ (e := e_bool) (z' := false) rfl rfl rfl ty4 rfl rfl k9 rfl rfl rfl rfl rfl rfl (.s .z) ?_
                refine ops_nil ?_
                refine bN ?_
                obtain rfl := retE h
                refine mN ?_
                refine w_sub (env' := [(3, [.c (.row 1)]), (14, [.c (.pv (.sl (List.map e_flow_Graph a0.Graphs)))]), (15, [.c (.pv (.int .i64 (a0.Graphs.length : Int)))]), (16, [.c (.pv (.int .i64 x1.1))]), (21, [.c (.pv (.sl (List.map e_flow_Edge v2.Edges)))]), (22, [.c (.pv (.int .i64 (v2.Edges.length : Int)))]), (23, [.c (.pv (.int .i64 x2.1))])]) (sub_cons rfl (sub_cons rfl (sub_cons rfl (sub_cons rfl (sub_cons rfl (sub_cons rfl (sub_cons rfl sub_nil))))))) ?_
                refine w_cut 2 rfl rfl rfl rfl ?_
                exact wkE (by kernel_rfl) (by kernel_rfl)
              · have h := iteF h k8
                refine skip_ ?_
                refine bN ?_
                obtain rfl := retE h
                refine mN ?_
                refine w_sub (env' := [(3, [.c (.row 1)]), (14, [.c (.pv (.sl (List.map e_flow_Graph a0.Graphs)))]), (15, [.c (.pv (.int .i64 (a0.Graphs.length : Int)))]), (16, [.c (.pv (.int .i64 x1.1))]), (21, [.c (.pv (.sl (List.map e_flow_Edge v2.Edges)))]), (22, [.c (.pv (.int .i64 (v2.Edges.length : Int)))]), (23, [.c (.pv (.int .i64 x2.1))])]) (sub_cons rfl (sub_cons rfl (sub_cons rfl (sub_cons rfl (sub_cons rfl (sub_cons rfl (sub_cons rfl sub_nil))))))) ?_
                refine w_cut 2 rfl rfl rfl rfl ?_
                exact wkE (by kernel_rfl) (by kernel_rfl)
          · refine then_ ?_
            refine region_ ?_
            refine R tbok 2 [23, 3, 14, 15, 16, 21, 22] [(23, [.c (.pv (.int .i64 (IntKind.i64.wrap (x2.1 + 1))))]), (3, [.c (.row 1)]), (14, [.c (.pv (.sl (List.map e_flow_Graph a0.Graphs)))]), (15, [.c (.pv (.int .i64 (a0.Graphs.length : Int)))]), (16, [.c (.pv (.int .i64 x1.1))]), (21, [.c (.pv (.sl (List.map e_flow_Edge v2.Edges)))]), (22, [.c (.pv (.int .i64 (v2.Edges.length : Int)))])] (by kernel_rfl) ?_
            refine ops_nil ?_
            obtain rfl := retE h
            refine lN ?_
            refine w_sub (env' := [(3, [.c (.row 1)]), (14, [.c (.pv (.sl (List.map e_flow_Graph a0.Graphs)))]), (15, [.c (.pv (.int .i64 (a0.Graphs.length : Int)))]), (16, [.c (.pv (.int .i64 x1.1))]), (21, [.c (.pv (.sl (List.map e_flow_Edge v2.Edges)))]), (22, [.c (.pv (.int .i64 (v2.Edges.length : Int)))]), (23, [.c (.pv (.int .i64 (IntKind.i64.wrap (x2.1 + 1))))])]) (sub_cons rfl (sub_cons rfl (sub_cons rfl (sub_cons rfl (sub_cons rfl (sub_cons rfl (sub_cons rfl sub_nil))))))) ?_
            refine w_pad (.s (.s .z)) ?_
            exact wkE (by kernel_rfl) (by kernel_rfl)
        · have h := iteF h k4
          refine exit_ ?_
          refine tX ?_
          obtain rfl := retE h
          refine lX ?_
          refine w_sub (env' := [(3, [.c (.row 1)]), (14, [.c (.pv (.sl (List.map e_flow_Graph a0.Graphs)))]), (15, [.c (.pv (.int .i64 (a0.Graphs.length : Int)))]), (16, [.c (.pv (.int .i64 x1.1))])]) (sub_cons rfl (sub_cons rfl (sub_cons rfl (sub_cons rfl sub_nil)))) ?_
          refine w_cut 2 rfl rfl rfl rfl ?_
          exact wkE (by kernel_rfl) (by kernel_rfl)
      · cases h
      · have h := elimR h
        refine bN ?_
        refine then_ ?_
        refine region_ ?_
        refine R tbok 2 [16, 3, 14, 15] [(16, [.c (.pv (.int .i64 (IntKind.i64.wrap (x1.1 + 1))))]), (3, [.c (.row 1)]), (14, [.c (.pv (.sl (List.map e_flow_Graph a0.Graphs)))]), (15, [.c (.pv (.int .i64 (a0.Graphs.length : Int)))])] (by kernel_rfl) ?_
        refine ops_nil ?_
        obtain rfl := retE h
        refine lN ?_
        refine w_sub (env' := [(3, [.c (.row 1)]), (14, [.c (.pv (.sl (List.map e_flow_Graph a0.Graphs)))]), (15, [.c (.pv (.int .i64 (a0.Graphs.length : Int)))]), (16, [.c (.pv (.int .i64 (IntKind.i64.wrap (x1.1 + 1))))])]) (sub_cons rfl (sub_cons rfl (sub_cons rfl (sub_cons rfl sub_nil)))) ?_
        exact wkE (by kernel_rfl) (by kernel_rfl)
    · have h := iteF h k2
      refine exit_ ?_
      refine tX ?_
      obtain rfl := retE h
      refine lX ?_
      refine w_sub (env' := [(3, [.c (.row 1)])]) (sub_cons rfl sub_nil) ?_
      exact wkE (by kernel_rfl) (by kernel_rfl)
  · cases h
  · have h := elimR h
    refine then_ ?_
    refine seq_ ?_
    refine region_ ?_
    refine R tbok 2 [2] [(2, [.c (.row 1)])] (by kernel_rfl) ?_
    refine ops_nil ?_
    refine then_ ?_
    refine ret_ ?_
    obtain rfl := retE h
    refine rwr (rw_ (.tmp rfl .nil) ?_)
    refine (w_freeze (b := 1) (env' := [(0, [.c (.pv (.sl (List.map e_bool j1)))])]) (st' := [none, none]) rfl rfl rfl ?_)
    refine w_cut 0 rfl rfl rfl rfl ?_
    exact wkE (by kernel_rfl) (by kernel_rfl)

theorem trans_vars_meets {a0 : flow_Sys} {a1 : Int} {r : Int} (h : trans_vars a0 a1 = some r) : MeetsV Try.prog GG 19 [.agg [.pv (.sl (List.map e_check_Chan a0.Chans)), .pv (.sl (List.map e_flow_Graph a0.Graphs)), .pv (.sl (List.map e_i64 a0.Vars))], .c (.pv (.int .i64 a1))] [.c (.pv (.int .i64 r))] := by
  refine MeetsS.toV (meetsW_of (st0 := []) (N := 19) r_trans_vars o_trans_vars r Try.func19 rfl rfl rfl (by dsimp only [argEnv]) rfl ?_) rfl
  unfold trans_vars at h
  refine seq_ ?_
  refine region_ ?_
  refine B rfl rfl (bir_box rfl rfl rfl) rfl rfl .z ?_
  refine R tbok 1 [4, 2, 1] [(4, [.c (.pv (.int .i64 0))]), (2, [.c (.box 0 0)]), (1, [.c (.pv (.int .i64 a1))])] (by kernel_rfl) ?_
  refine ops_nil ?_
  refine then_ ?_
  refine seq_ ?_
  refine seq_ ?_
  refine jn_ (fun (j1 : Bool) => (⟨19, 0, [(1, [.c (.pv (.int .i64 a1))]), (2, [.c (.box 0 0)]), (4, [.c (.pv (.int .i64 0))]), (13, [.c (.pv (.bool j1))])], [some (.box true 39 [.pv (.sl (List.map e_check_Chan a0.Chans)), .pv (.sl (List.map e_flow_Graph a0.Graphs)), .pv (.sl (List.map e_i64 a0.Vars))])]⟩ : Sx)) h wT (fun o h => ?_) (fun j1 h => ?_)
  · refine region_ ?_
    refine R tbok 3 [7, 4, 2, 1] [(7, [.c (.pv (.bool (decide (a1 < 0))))]), (4, [.c (.pv (.int .i64 0))]), (2, [.c (.box 0 0)]), (1, [.c (.pv (.int .i64 a1))])] (by kernel_rfl) ?_
    refine (tf (decide (a1 < 0))).elim (fun k1 => ?_) (fun k1 => ?_)
    · have h := iteT h k1
      refine Ls0 rfl rfl rfl k1 rfl rfl ?_
      refine Ls0 rfl rfl rfl k1 rfl rfl ?_
      refine Ls0 rfl rfl rfl k1 rfl rfl ?_
      refine Ls0 rfl rfl rfl k1 rfl rfl ?_
      refine Ls0 rfl rfl rfl k1 rfl rfl ?_
      refine L rfl rfl (lt_pickT rfl rfl k1 rfl) rfl ?_
      refine ops_nil ?_
      obtain rfl := retE h
      refine mN ?_
      refine w_sub (env' := [(1, [.c (.pv (.int .i64 a1))]), (2, [.c (.box 0 0)]), (4, [.c (.pv (.int .i64 0))]), (13, [.c (.pv (.bool true))])]) (sub_cons rfl (sub_cons rfl (sub_cons rfl (sub_cons rfl sub_nil)))) ?_
      exact wkE (by kernel_rfl) (by kernel_rfl)
    · have h := iteF h k1
      refine Lg rfl rfl rfl k1 rfl (lt_move rfl rfl) rfl ?_
      refine Lg rfl rfl rfl k1 rfl (lt_fa_box rfl f39_2 ty33 (by decide) rfl) rfl ?_
      refine Lg rfl rfl rfl k1 rfl (lt_load_box rfl ty33 rfl rfl rfl) rfl ?_
      refine Lg rfl rfl rfl k1 rfl (len_sl (e := e_i64) rfl u33 rfl) rfl ?_
      refine Lg rfl rfl rfl k1 rfl (lt_int rfl rfl rfl rfl) rfl ?_
      refine L rfl rfl (lt_pickF rfl rfl k1 rfl) rfl ?_
      refine ops_nil ?_
      obtain rfl := retE h
      refine mN ?_
      refine w_sub (env' := [(1, [.c (.pv (.int .i64 a1))]), (2, [.c (.box 0 0)]), (4, [.c (.pv (.int .i64 0))]), (13, [.c (.pv (.bool (decide (a1 ≥ (a0.Vars.length : Int)))))])]) (sub_cons rfl (sub_cons rfl (sub_cons rfl (sub_cons rfl sub_nil)))) ?_
      exact wkE (by kernel_rfl) (by kernel_rfl)
  · refine then_ ?_
    refine cond_ (b := j1) rfl (fun k2 => ?_) (fun k2 => ?_)
    · have h := iteT h k2
      refine seq_ ?_
      refine region_ ?_
      refine R tbok 1 [4, 1, 2] [(4, [.c (.pv (.int .i64 0))]), (1, [.c (.pv (.int .i64 a1))]), (2, [.c (.box 0 0)])] (by kernel_rfl) ?_
      refine ops_nil ?_
      refine then_ ?_
      refine ret_ ?_
      obtain rfl := retE h
      refine tR (rwr (rw_ (.tmp rfl .nil) ?_))
      refine w_none 0 .z ?_
      refine w_cut 0 rfl rfl rfl rfl ?_
      exact wkE (by kernel_rfl) (by kernel_rfl)
    · have h := iteF h k2
      refine skip_ ?_
      refine then_ ?_
      refine seq_ ?_
      refine region_ ?_
      refine R tbok 3 [16, 15, 4] [(16, [.c (.pv (.int .i64 a1))]), (15, [.c (.pv (.sl (List.map e_i64 a0.Vars)))]), (4, [.c (.pv (.int .i64 0))])] (by kernel_rfl) ?_
      obtain ⟨v1, k3, h⟩ := bindE h
      refine L rfl rfl (ia_sl (e := e_i64) (y := v1) rfl u33 ty3 rfl rfl k3 rfl) rfl ?_
      refine R tbok 2 [4] [(4, [.c (.pv (.int .i64 v1))])] (by kernel_rfl) ?_
      refine ops_nil ?_
      refine then_ ?_
      refine ret_ ?_
      obtain rfl := retE h
      refine rwr (rw_ (.tmp rfl .nil) ?_)
      refine w_none 0 .z ?_
      refine w_cut 0 rfl rfl rfl rfl ?_
      exact wkE (by kernel_rfl) (by kernel_rfl)

theorem zone_Zeros_meets {a0 : Int} {r : zone_Zone} (h : zone_Zeros a0 = some r) : MeetsV Try.prog GG 35 [.c (.pv (.int .i64 a0))] [.agg (bs (e_zone_Zone r))] := by
  refine MeetsS.toV (meetsW_of (st0 := []) (N := 7) r_zone_Zeros o_zone_Zeros r Try.func35 rfl rfl rfl (by dsimp only [argEnv]) rfl ?_) rfl
  unfold zone_Zeros at h
  refine seq_ ?_
  refine region_ ?_
  refine B rfl rfl (bir_alloc rfl z44 rfl rfl) rfl rfl .z ?_
  refine ops_nil ?_
  refine then_ ?_
  refine seq_ ?_
  refine region_ ?_
  refine R tbok 1 [3, 2] [(3, [.c (.pv (.int .i64 a0))]), (2, [.c (.box 0 0)])] (by kernel_rfl) ?_
  refine L rfl rfl (lt_max2 rfl rfl rfl) rfl ?_
  refine L rfl rfl (lt_min2 rfl rfl rfl) rfl ?_
  refine L rfl rfl (lt_build (cs := (bs (e_zone_Zone (zone_Zone.mk (min (max a0 0) 6) false (arr (arr 0 []) [(arr 0 [0, 0, 0, 0, 0, 0, 0]), (arr 0 [0, 0, 0, 0, 0, 0, 0]), (arr 0 [0, 0, 0, 0, 0, 0, 0]), (arr 0 [0, 0, 0, 0, 0, 0, 0]), (arr 0 [0, 0, 0, 0, 0, 0, 0]), (arr 0 [0, 0, 0, 0, 0, 0, 0]), (arr 0 [0, 0, 0, 0, 0, 0, 0])]))))) rfl st44 rfl (by kernel_rfl)) rfl ?_
  refine S rfl rfl rfl ty44 (by decide) rfl rfl rfl rfl rfl (.all rfl) .z ?_
  refine ops_nil ?_
  refine then_ ?_
  refine ret_ ?_
  obtain rfl := retE h
  refine rwr (rw_ (.cellA (ys := (bs (e_zone_Zone (zone_Zone.mk (min (max a0 0) 6) false (arr (arr 0 []) [(arr 0 [0, 0, 0, 0, 0, 0, 0]), (arr 0 [0, 0, 0, 0, 0, 0, 0]), (arr 0 [0, 0, 0, 0, 0, 0, 0]), (arr 0 [0, 0, 0, 0, 0, 0, 0]), (arr 0 [0, 0, 0, 0, 0, 0, 0]), (arr 0 [0, 0, 0, 0, 0, 0, 0]), (arr 0 [0, 0, 0, 0, 0, 0, 0])]))))) ty44 rfl rfl (by kernel_rfl) (by kernel_rfl) .nil) ?_)
  refine w_none 0 .z ?_
  refine w_cut 0 rfl rfl rfl rfl ?_
  exact wkE (by kernel_rfl) (by kernel_rfl)

theorem zone_count_meets {a0 : Int} {r : Bool} (h : zone_count a0 = some r) : MeetsV Try.prog GG 48 [.c (.pv (.int .i64 a0))] [.c (.pv (.bool r))] := by
  refine MeetsS.toV (meetsW_of (st0 := []) (N := 9) r_zone_count o_zone_count r Try.func48 rfl rfl rfl (by dsimp only [argEnv]) rfl ?_) rfl
  unfold zone_count at h
  refine seq_ ?_
  refine region_ ?_
  refine R tbok 1 [2, 0] [(2, [.c (.pv (.bool false))]), (0, [.c (.pv (.int .i64 a0))])] (by kernel_rfl) ?_
  refine ops_nil ?_
  refine then_ ?_
  refine seq_ ?_
  refine jn_ (fun (j1 : Bool) => (⟨9, 0, [(2, [.c (.pv (.bool j1))])], []⟩ : Sx)) h wT (fun o h => ?_) (fun j1 h => ?_)
  · refine region_ ?_
    refine R tbok 3 [5, 2, 0] [(5, [.c (.pv (.bool (decide (a0 ≥ 0))))]), (2, [.c (.pv (.bool false))]), (0, [.c (.pv (.int .i64 a0))])] (by kernel_rfl) ?_
    refine (tf (decide (a0 ≥ 0))).elim (fun k1 => ?_) (fun k1 => ?_)
    · have h := iteT h k1
      refine Lg rfl rfl rfl k1 rfl (lt_move rfl rfl) rfl ?_
      refine Lg rfl rfl rfl k1 rfl (lt_int rfl rfl rfl rfl) rfl ?_
      refine L rfl rfl (lt_pickT rfl rfl k1 rfl) rfl ?_
      refine R tbok 1 [2] [(2, [.c (.pv (.bool (decide (a0 ≤ 6))))])] (by kernel_rfl) ?_
      refine ops_nil ?_
      obtain rfl := retE h
      refine mN ?_
      exact wkE (by kernel_rfl) (by kernel_rfl)
    · have h := iteF h k1
      refine Ls0 rfl rfl rfl k1 rfl rfl ?_
      refine Ls0 rfl rfl rfl k1 rfl rfl ?_
      refine L rfl rfl (lt_pickF rfl rfl k1 rfl) rfl ?_
      refine R tbok 1 [2] [(2, [.c (.pv (.bool false))])] (by kernel_rfl) ?_
      refine ops_nil ?_
      obtain rfl := retE h
      refine mN ?_
      exact wkE (by kernel_rfl) (by kernel_rfl)
  · refine then_ ?_
    refine ret_ ?_
    obtain rfl := retE h
    refine rwr (rw_ (.tmp rfl .nil) ?_)
    exact wkE (by kernel_rfl) (by kernel_rfl)

theorem zone_variable_meets {a0 : zone_Zone} {a1 : Int} {r : Bool} (h : zone_variable a0 a1 = some r) : MeetsV Try.prog GG 53 [.agg (bs (e_zone_Zone a0)), .c (.pv (.int .i64 a1))] [.c (.pv (.bool r))] := by
  refine MeetsS.toV (meetsW_of (st0 := []) (N := 23) r_zone_variable o_zone_variable r Try.func53 rfl rfl rfl (by dsimp only [argEnv]) rfl ?_) rfl
  unfold zone_variable at h
  refine seq_ ?_
  refine region_ ?_
  refine B rfl rfl (bir_box rfl rfl rfl) rfl rfl .z ?_
  refine R tbok 1 [4, 2, 1] [(4, [.c (.pv (.bool false))]), (2, [.c (.box 0 0)]), (1, [.c (.pv (.int .i64 a1))])] (by kernel_rfl) ?_
  refine ops_nil ?_
  refine then_ ?_
  refine seq_ ?_
  refine jn_ (fun (j1 : Bool) => (⟨23, 0, [(4, [.c (.pv (.bool j1))])], []⟩ : Sx)) h wT (fun o h => ?_) (fun j1 h => ?_)
  · refine region_ ?_
    refine R tbok 2 [6, 4, 2, 1] [(6, [.c (.pv (.int .i64 a0.N))]), (4, [.c (.pv (.bool false))]), (2, [.c (.box 0 0)]), (1, [.c (.pv (.int .i64 a1))])] (by kernel_rfl) ?_
    obtain ⟨v1, k1, h⟩ := bindE h
    refine C rfl rfl (fl_call rfl Try.call48 rfl (by kernel_rfl) (by kernel_rfl) (zone_count_meets k1)) rfl ?_
    refine R tbok 1 [8, 4, 2, 1] [(8, [.c (.pv (.bool v1))]), (4, [.c (.pv (.bool false))]), (2, [.c (.box 0 0)]), (1, [.c (.pv (.int .i64 a1))])] (by kernel_rfl) ?_
    refine (tf v1).elim (fun k2 => ?_) (fun k2 => ?_)
    · have h := iteT h k2
      refine Lg rfl rfl rfl k2 rfl (lt_fa_box rfl f44_1 ty4 (by decide) rfl) rfl ?_
      refine Lg rfl rfl rfl k2 rfl (lt_load_box rfl ty4 rfl rfl rfl) rfl ?_
      refine Lg rfl rfl rfl k2 rfl (lt_not rfl rfl) rfl ?_
      refine L rfl rfl (lt_pickT rfl rfl k2 rfl) rfl ?_
      refine R tbok 1 [13, 4, 2, 1] [(13, [.c (.pv (.bool (!a0.None)))]), (4, [.c (.pv (.bool false))]), (2, [.c (.box 0 0)]), (1, [.c (.pv (.int .i64 a1))])] (by kernel_rfl) ?_
      refine (tf (!a0.None)).elim (fun k3 => ?_) (fun k3 => ?_)
      · have h := iteT h k3
        refine Lg rfl rfl rfl k3 rfl (lt_move rfl rfl) rfl ?_
        refine Lg rfl rfl rfl k3 rfl (lt_int rfl rfl rfl rfl) rfl ?_
        refine L rfl rfl (lt_pickT rfl rfl k3 rfl) rfl ?_
        refine R tbok 1 [17, 4, 2, 1] [(17, [.c (.pv (.bool (decide (a1 ≥ 0))))]), (4, [.c (.pv (.bool false))]), (2, [.c (.box 0 0)]), (1, [.c (.pv (.int .i64 a1))])] (by kernel_rfl) ?_
        refine (tf (decide (a1 ≥ 0))).elim (fun k4 => ?_) (fun k4 => ?_)
        · have h := iteT h k4
          refine Lg rfl rfl rfl k4 rfl (lt_move rfl rfl) rfl ?_
          refine Lg rfl rfl rfl k4 rfl (lt_fa_box rfl f44_0 ty3 (by decide) rfl) rfl ?_
          refine Lg rfl rfl rfl k4 rfl (lt_load_box rfl ty3 rfl rfl rfl) rfl ?_
          refine Lg rfl rfl rfl k4 rfl (lt_int rfl rfl rfl rfl) rfl ?_
          refine L rfl rfl (lt_pickT rfl rfl k4 rfl) rfl ?_
          refine R tbok 1 [4] [(4, [.c (.pv (.bool (decide (a1 < a0.N))))])] (by kernel_rfl) ?_
          refine ops_nil ?_
          obtain rfl := retE h
          refine mN ?_
          refine w_cut 0 rfl rfl rfl rfl ?_
          exact wkE (by kernel_rfl) (by kernel_rfl)
        · have h := iteF h k4
          refine Ls0 rfl rfl rfl k4 rfl rfl ?_
          refine Ls0 rfl rfl rfl k4 rfl rfl ?_
          refine Ls0 rfl rfl rfl k4 rfl rfl ?_
          refine Ls0 rfl rfl rfl k4 rfl rfl ?_
          refine L rfl rfl (lt_pickF rfl rfl k4 rfl) rfl ?_
          refine R tbok 1 [4] [(4, [.c (.pv (.bool false))])] (by kernel_rfl) ?_
          refine ops_nil ?_
          obtain rfl := retE h
          refine mN ?_
          refine w_cut 0 rfl rfl rfl rfl ?_
          exact wkE (by kernel_rfl) (by kernel_rfl)
      · have h := iteF h k3
        refine Ls0 rfl rfl rfl k3 rfl rfl ?_
        refine Ls0 rfl rfl rfl k3 rfl rfl ?_
        refine L rfl rfl (lt_pickF rfl rfl k3 rfl) rfl ?_
        refine R tbok 1 [17, 4, 2, 1] [(17, [.c (.pv (.bool false))]), (4, [.c (.pv (.bool false))]), (2, [.c (.box 0 0)]), (1, [.c (.pv (.int .i64 a1))])] (by kernel_rfl) ?_
        refine Ls0 rfl rfl rfl rfl rfl rfl ?_
        refine Ls0 rfl rfl rfl rfl rfl rfl ?_
        refine Ls0 rfl rfl rfl rfl rfl rfl ?_
        refine Ls0 rfl rfl rfl rfl rfl rfl ?_
        refine L rfl rfl (lt_pickF rfl rfl rfl rfl) rfl ?_
        refine R tbok 1 [4] [(4, [.c (.pv (.bool false))])] (by kernel_rfl) ?_
        refine ops_nil ?_
        obtain rfl := retE h
        refine mN ?_
        refine w_cut 0 rfl rfl rfl rfl ?_
        exact wkE (by kernel_rfl) (by kernel_rfl)
    · have h := iteF h k2
      refine Ls0 rfl rfl rfl k2 rfl rfl ?_
      refine Ls0 rfl rfl rfl k2 rfl rfl ?_
      refine Ls0 rfl rfl rfl k2 rfl rfl ?_
      refine L rfl rfl (lt_pickF rfl rfl k2 rfl) rfl ?_
      refine R tbok 1 [13, 4, 2, 1] [(13, [.c (.pv (.bool false))]), (4, [.c (.pv (.bool false))]), (2, [.c (.box 0 0)]), (1, [.c (.pv (.int .i64 a1))])] (by kernel_rfl) ?_
      refine Ls0 rfl rfl rfl rfl rfl rfl ?_
      refine Ls0 rfl rfl rfl rfl rfl rfl ?_
      refine L rfl rfl (lt_pickF rfl rfl rfl rfl) rfl ?_
      refine R tbok 1 [17, 4, 2, 1] [(17, [.c (.pv (.bool false))]), (4, [.c (.pv (.bool false))]), (2, [.c (.box 0 0)]), (1, [.c (.pv (.int .i64 a1))])] (by kernel_rfl) ?_
      refine Ls0 rfl rfl rfl rfl rfl rfl ?_
      refine Ls0 rfl rfl rfl rfl rfl rfl ?_
      refine Ls0 rfl rfl rfl rfl rfl rfl ?_
      refine Ls0 rfl rfl rfl rfl rfl rfl ?_
      refine L rfl rfl (lt_pickF rfl rfl rfl rfl) rfl ?_
      refine R tbok 1 [4] [(4, [.c (.pv (.bool false))])] (by kernel_rfl) ?_
      refine ops_nil ?_
      obtain rfl := retE h
      refine mN ?_
      refine w_cut 0 rfl rfl rfl rfl ?_
      exact wkE (by kernel_rfl) (by kernel_rfl)
  · refine then_ ?_
    refine ret_ ?_
    obtain rfl := retE h
    refine rwr (rw_ (.tmp rfl .nil) ?_)
    exact wkE (by kernel_rfl) (by kernel_rfl)

theorem zone_Itv_meets {a0 : zone_Zone} {a1 : Int} {r : itv_Itv} (h : zone_Itv a0 a1 = some r) : MeetsV Try.prog GG 51 [.agg (bs (e_zone_Zone a0)), .c (.pv (.int .i64 a1))] [.agg [.pv (.int .i64 r.Lo), .pv (.int .i64 r.Hi)]] := by
  refine MeetsS.toV (meetsW_of (st0 := []) (N := 24) r_zone_Itv o_zone_Itv r Try.func51 rfl rfl rfl (by dsimp only [argEnv]) rfl ?_) rfl
  unfold zone_Itv at h
  refine seq_ ?_
  refine region_ ?_
  refine B rfl rfl (bir_box rfl rfl rfl) rfl rfl .z ?_
  refine B rfl rfl (bir_alloc rfl z53 rfl rfl) rfl rfl (.s .z) ?_
  refine ops_nil ?_
  refine then_ ?_
  refine seq_ ?_
  refine seq_ ?_
  refine region_ ?_
  refine R tbok 2 [6, 5, 4, 2, 1] [(6, [.c (.pv (.int .i64 a1))]), (5, [.agg (bs (e_zone_Zone a0))]), (4, [.c (.box 1 0)]), (2, [.c (.box 0 0)]), (1, [.c (.pv (.int .i64 a1))])] (by kernel_rfl) ?_
  obtain ⟨v1, k1, h⟩ := bindE h
  refine C rfl rfl (fl_call rfl Try.call53 rfl (by kernel_rfl) (by kernel_rfl) (zone_variable_meets k1)) rfl ?_
  refine R tbok 1 [8, 4, 2, 1] [(8, [.c (.pv (.bool (!v1)))]), (4, [.c (.box 1 0)]), (2, [.c (.box 0 0)]), (1, [.c (.pv (.int .i64 a1))])] (by kernel_rfl) ?_
  refine ops_nil ?_
  refine then_ ?_
  refine cond_ (b := (!v1)) rfl (fun k2 => ?_) (fun k2 => ?_)
  · have h := iteT h k2
    refine seq_ ?_
    refine region_ ?_
    obtain ⟨v2, k3, h⟩ := bindE h
    refine C rfl rfl (fl_call rfl Try.call22 rfl (by kernel_rfl) (by kernel_rfl) (itv_None_meets k3)) rfl ?_
    refine S rfl rfl rfl ty53 (by decide) rfl rfl rfl rfl rfl (.all rfl) (.s .z) ?_
    refine ops_nil ?_
    refine then_ ?_
    refine ret_ ?_
    obtain rfl := retE h
    refine tR (rwr (rw_ (.cellA (ys := [.pv (.int .i64 v2.Lo), .pv (.int .i64 v2.Hi)]) ty53 rfl rfl (by kernel_rfl) (by kernel_rfl) .nil) ?_))
    refine w_none 0 .z ?_
    refine w_none 1 (.s .z) ?_
    refine w_cut 0 rfl rfl rfl rfl ?_
    exact wkE (by kernel_rfl) (by kernel_rfl)
  · have h := iteF h k2
    refine skip_ ?_
    refine then_ ?_
    refine seq_ ?_
    refine drawn_ mixed ?_
    refine dl (t := 10) 0 [.c (.pv (.int .i64 a1))] rfl ?_
    refine dl (t := 11) 1 [.c (.pv (.int .i64 (IntKind.i64.wrap (a1 + 1))))] rfl ?_
    refine dl (t := 12) 2 [.c (.box 0 2)] rfl ?_
    refine dl (t := 13) 3 [.c (.box 0 2)] rfl ?_
    obtain ⟨v3, k4, h⟩ := bindE h
    refine dl (t := 14) 4 [.c (.box 0 (2 + 0 * 7 + v3 * 1))] rfl ?_
    refine dl (t := 15) 5 [.c (.pv (.int .i64 ((a0.D 0) v3)))] rfl ?_
    refine dl (t := 16) 6 [.c (.pv (.int .i64 (IntKind.i64.wrap (0 - ((a0.D 0) v3)))))] rfl ?_
    refine dl (t := 17) 7 [.c (.pv (.int .i64 a1))] rfl ?_
    refine dl (t := 18) 8 [.c (.pv (.int .i64 (IntKind.i64.wrap (a1 + 1))))] rfl ?_
    refine dl (t := 19) 9 [.c (.box 0 2)] rfl ?_
    obtain ⟨v4, k5, h⟩ := bindE h
    refine dl (t := 20) 10 [.c (.box 0 (2 + v4 * 7))] rfl ?_
    refine dl (t := 21) 11 [.c (.box 0 (2 + v4 * 7 + 0 * 1))] rfl ?_
    refine dl (t := 22) 12 [.c (.pv (.int .i64 ((a0.D v4) 0)))] rfl ?_
    obtain ⟨v6, k7, h⟩ := bindE h
    refine dl (t := 23) 13 [.agg [.pv (.int .i64 v6.Lo), .pv (.int .i64 v6.Hi)]] rfl ?_
    refine d_store (wm [0, 1, 0, 4, 15, 31, 63, 0, 128, 0, 896, 1920, 3968, 8191, 16383]) 14 rfl (by kernel_rfl) (by kernel_rfl) (by kernel_rfl) (by kernel_rfl) (by kernel_rfl) (gi0 rfl) (oL [] rfl (by kernel_rfl) (fl_call rfl Try.call17 rfl (by kernel_rfl) (by kernel_rfl) (itv_Of_meets k7)) (oL [] rfl (by kernel_rfl) (fl_lt (lt_load_box rfl ty3 rfl rfl (at2 (e := (PV.int .i64)) (D2 := a0.D) (pre := [.int .i64 a0.N, .bool a0.None]) (post := []) (n1 := 7) (n2 := 7) (by kernel_rfl) (inA_lt k5) (by decide)))) (oL [] rfl (by kernel_rfl) (fl_lt (ia_boxD rfl u41 ty3 rfl rfl (kk := 0) (by rfl))) (oL [] rfl (by kernel_rfl) (fl_lt (ia_boxD rfl u42 ty41 rfl rfl k5)) (oE tbok [] 4 (by kernel_rfl) (oL [] rfl (by kernel_rfl) (fl_lt (lt_load_box rfl ty3 rfl rfl (at2 (e := (PV.int .i64)) (D2 := a0.D) (pre := [.int .i64 a0.N, .bool a0.None]) (post := []) (n1 := 7) (n2 := 7) (by kernel_rfl) (by decide) (inA_lt k4)))) (oL [] rfl (by kernel_rfl) (fl_lt (ia_boxD rfl u41 ty3 rfl rfl k4)) (oL [] rfl (by kernel_rfl) (fl_lt (ia_box rfl u42 ty41 rfl rfl rfl 2 rfl)) (oE tbok [] 3 (by kernel_rfl) trivial))))))))) rfl rfl ty53 rfl rfl rfl rfl rfl rfl (putE 2 (.all rfl) rfl (by decide)) (SetAt.eq (.s .z)) ?_
    refine d_endS (env2 := [(4, [.c (.box 1 0)])]) (wm [0, 1, 0, 4, 15, 31, 63, 0, 128, 0, 896, 1920, 3968, 8191, 16383]) (by kernel_rfl) (by kernel_rfl) (by kernel_rfl) (oN 15 (by kernel_rfl) trivial) (sub_cons rfl sub_nil) wT ?_
    refine then_ ?_
    refine ret_ ?_
    obtain rfl := retE h
    refine rwr (rw_ (.cellA (ys := [.pv (.int .i64 v6.Lo), .pv (.int .i64 v6.Hi)]) ty53 rfl rfl (by kernel_rfl) (by kernel_rfl) .nil) ?_)
    refine w_none 0 .z ?_
    refine w_none 1 (.s .z) ?_
    refine w_cut 0 rfl rfl rfl rfl ?_
    exact wkE (by kernel_rfl) (by kernel_rfl)

theorem num_of_meets {a0 : zone_Zone} {r : num_Num} (h : num_of a0 = some r) : MeetsV Try.prog GG 34 [.agg (bs (e_zone_Zone a0))] [.agg (bs (e_num_Num r))] := by
  refine MeetsS.toV (meetsW_of (st0 := []) (N := 26) r_num_of o_num_of r Try.func34 rfl rfl rfl (by dsimp only [argEnv]) rfl ?_) rfl
  unfold num_of at h
  refine seq_ ?_
  refine region_ ?_
  refine B rfl rfl (bir_box rfl rfl rfl) rfl rfl .z ?_
  refine B rfl rfl (bir_alloc rfl z46 rfl rfl) rfl rfl (.s .z) ?_
  refine ops_nil ?_
  refine then_ ?_
  refine seq_ ?_
  refine region_ ?_
  refine R tbok 3 [7, 6, 2, 1] [(7, [.agg (bs (e_zone_Zone a0))]), (6, [.c (.pv (.bool a0.None))]), (2, [.c (.box 1 0)]), (1, [.c (.box 0 0)])] (by kernel_rfl) ?_
  refine L rfl rfl (lt_build (cs := ([.pv (.bool a0.None), .emp, .pv (.int .i64 a0.N), .pv (.bool a0.None)] ++ bs (e_T42 a0.D))) rfl st46 rfl (by kernel_rfl)) rfl ?_
  refine B rfl rfl (bir_alloc rfl z46 rfl rfl) rfl rfl (.s (.s .z)) ?_
  refine S rfl rfl rfl ty46 (by decide) rfl rfl rfl rfl rfl (.all rfl) (.s (.s .z)) ?_
  refine ops_nil ?_
  refine then_ ?_
  refine seq_ ?_
  refine seq_ ?_
  refine region_ ?_
  refine R tbok 2 [10, 3, 2, 1] [(10, [.c (.pv (.int .i64 a0.N))]), (3, [.c (.box 2 0)]), (2, [.c (.box 1 0)]), (1, [.c (.box 0 0)])] (by kernel_rfl) ?_
  refine L rfl rfl (lt_max2 rfl rfl rfl) rfl ?_
  refine L rfl rfl (lt_min2 rfl rfl rfl) rfl ?_
  refine R tbok 1 [13, 12, 3, 2, 1] [(13, [.c (.pv (.int .i64 0))]), (12, [.c (.pv (.int .i64 (min (max a0.N 0) 6)))]), (3, [.c (.box 2 0)]), (2, [.c (.box 1 0)]), (1, [.c (.box 0 0)])] (by kernel_rfl) ?_
  refine ops_nil ?_
  refine then_ ?_
  refine CodeT.weak (w_liftC 2 1 53 2 rfl rfl (.s .z) (.s (.s .z)) (.s (.s (.s .z))) (Weak.refl _)) ?_
  refine lp_ (Qr := RW Try.prog GG Try.f34 0 r_num_of o_num_of) (num_of_l2 a0) (fun (x2 : (Int × num_Num × (List itv_Itv))) => (⟨26, 0, [(1, [.c (.box 0 0)]), (2, [.c (.box 1 0)]), (3, [.c (.box 2 0)]), (12, [.c (.pv (.int .i64 (min (max a0.N 0) 6)))]), (13, [.c (.pv (.int .i64 x2.1))])], [some (.box true 44 (bs (e_zone_Zone a0))), some (.box true 46 ([.pv (.bool false), .emp, .pv (.int .i64 0), .pv (.bool false)] ++ bs (e_T42 (arr (arr 0 []) [(arr 0 [0, 0, 0, 0, 0, 0, 0]), (arr 0 [0, 0, 0, 0, 0, 0, 0]), (arr 0 [0, 0, 0, 0, 0, 0, 0]), (arr 0 [0, 0, 0, 0, 0, 0, 0]), (arr 0 [0, 0, 0, 0, 0, 0, 0]), (arr 0 [0, 0, 0, 0, 0, 0, 0]), (arr 0 [0, 0, 0, 0, 0, 0, 0])])))), some (.box true 46 ([.pv (.bool x2.2.1.None), .row 3, .pv (.int .i64 x2.2.1.Z.N), .pv (.bool x2.2.1.Z.None)] ++ bs (e_T42 x2.2.1.Z.D))), some (.row true true 53 2 (List.map e_itv_Itv x2.2.2))]⟩ : Sx)) (fun (j2 : (num_Num × (List itv_Itv))) => (⟨26, 0, [(2, [.c (.box 1 0)]), (3, [.c (.box 2 0)])], [none, some (.box true 46 ([.pv (.bool false), .emp, .pv (.int .i64 0), .pv (.bool false)] ++ bs (e_T42 (arr (arr 0 []) [(arr 0 [0, 0, 0, 0, 0, 0, 0]), (arr 0 [0, 0, 0, 0, 0, 0, 0]), (arr 0 [0, 0, 0, 0, 0, 0, 0]), (arr 0 [0, 0, 0, 0, 0, 0, 0]), (arr 0 [0, 0, 0, 0, 0, 0, 0]), (arr 0 [0, 0, 0, 0, 0, 0, 0]), (arr 0 [0, 0, 0, 0, 0, 0, 0])])))), some (.box true 46 ([.pv (.bool j2.1.None), .row 3, .pv (.int .i64 j2.1.Z.N), .pv (.bool j2.1.Z.None)] ++ bs (e_T42 j2.1.Z.D))), some (.row true true 53 2 (List.map e_itv_Itv j2.2))]⟩ : Sx)) (0, (num_Num.mk a0.None [] a0), []) RW.only h wT ?_ (fun x2 o h => ?_) (fun r h s' hs => ?_) (fun j2 h => ?_)
  · refine w_sub (env' := [(1, [.c (.box 0 0)]), (2, [.c (.box 1 0)]), (3, [.c (.box 2 0)]), (12, [.c (.pv (.int .i64 (min (max a0.N 0) 6)))]), (13, [.c (.pv (.int .i64 0))])]) (sub_cons rfl (sub_cons rfl (sub_cons rfl (sub_cons rfl (sub_cons rfl sub_nil))))) ?_
    refine w_ch 3 rfl (.s (.s (.s .z))) ?_
    exact wkE (by kernel_rfl) (by kernel_rfl)
  · unfold num_of_l2 at h
    refine seq_ ?_
    refine region_ ?_
    refine R tbok 1 [14, 1, 2, 3, 12, 13] [(14, [.c (.pv (.bool (decide (x2.1 < (min (max a0.N 0) 6)))))]), (1, [.c (.box 0 0)]), (2, [.c (.box 1 0)]), (3, [.c (.box 2 0)]), (12, [.c (.pv (.int .i64 (min (max a0.N 0) 6)))]), (13, [.c (.pv (.int .i64 x2.1))])] (by kernel_rfl) ?_
    refine ops_nil ?_
    refine then_ ?_
    refine seq_ ?_
    refine cond_ (b := (decide (x2.1 < (min (max a0.N 0) 6)))) rfl (fun k1 => ?_) (fun k1 => ?_)
    · have h := iteT h k1
      refine skip_ ?_
      refine then_ ?_
      refine seq_ ?_
      refine block_ ?_
      refine seq_ ?_
      refine region_ ?_
      refine R tbok 2 [4, 1, 2, 3, 12, 13] [(4, [.c (.pv (.int .i64 x2.1))]), (1, [.c (.box 0 0)]), (2, [.c (.box 1 0)]), (3, [.c (.box 2 0)]), (12, [.c (.pv (.int .i64 (min (max a0.N 0) 6)))]), (13, [.c (.pv (.int .i64 x2.1))])] (by kernel_rfl) ?_
      refine ops_nil ?_
      refine then_ ?_
      refine drawn_ mixed ?_
      refine dl (t := 16) 0 [.c (.box 2 1)] rfl ?_
      refine dl (t := 17) 1 [.c (.row 3)] rfl ?_
      refine dl (t := 18) 2 [.agg (bs (e_zone_Zone a0))] rfl ?_
      refine dl (t := 19) 3 [.c (.pv (.int .i64 x2.1))] rfl ?_
      obtain ⟨v2, k3, h⟩ := bindE h
      refine dl (t := 20) 4 [.agg [.pv (.int .i64 v2.Lo), .pv (.int .i64 v2.Hi)]] rfl ?_
      refine dl (t := 21) 5 [.c (.pv (.sl (List.map e_itv_Itv [v2])))] rfl ?_
      obtain ⟨v3, k4, h⟩ := bindE h
      refine d_append (env1 := [(4, [.c (.pv (.int .i64 x2.1))]), (1, [.c (.box 0 0)]), (2, [.c (.box 1 0)]), (3, [.c (.box 2 0)]), (12, [.c (.pv (.int .i64 (min (max a0.N 0) 6)))]), (13, [.c (.pv (.int .i64 x2.1))])]) (T1 := [⟨5, some 21, [.c (.pv (.sl (List.map e_itv_Itv [v2])))], .light⟩, ⟨4, some 20, [.agg [.pv (.int .i64 v2.Lo), .pv (.int .i64 v2.Hi)]], .light⟩, ⟨3, some 19, [.c (.pv (.int .i64 x2.1))], .light⟩, ⟨2, some 18, [.agg (bs (e_zone_Zone a0))], .light⟩, ⟨1, some 17, [.c (.any)], .light⟩, ⟨0, some 16, [.c (.box 2 1)], .light⟩]) (st' := [some (.box true 44 (bs (e_zone_Zone a0))), some (.box true 46 ([.pv (.bool false), .emp, .pv (.int .i64 0), .pv (.bool false)] ++ bs (e_T42 (arr (arr 0 []) [(arr 0 [0, 0, 0, 0, 0, 0, 0]), (arr 0 [0, 0, 0, 0, 0, 0, 0]), (arr 0 [0, 0, 0, 0, 0, 0, 0]), (arr 0 [0, 0, 0, 0, 0, 0, 0]), (arr 0 [0, 0, 0, 0, 0, 0, 0]), (arr 0 [0, 0, 0, 0, 0, 0, 0]), (arr 0 [0, 0, 0, 0, 0, 0, 0])])))), some (.box true 46 ([.pv (.bool x2.2.1.None), .any, .pv (.int .i64 x2.2.1.Z.N), .pv (.bool x2.2.1.Z.None)] ++ bs (e_T42 x2.2.1.Z.D))), some (.row true true 53 2 (List.map e_itv_Itv v3))]) (wm [0, 1, 0, 0, 12, 28, 63, 127, 255]) 6 rfl (by kernel_rfl) (by kernel_rfl) (by kernel_rfl) (by kernel_rfl) (by kernel_rfl) (gi0 rfl) (oL [] rfl (by kernel_rfl) (fl_slice (List.map e_itv_Itv [v2]) rfl sl40 rfl rfl rfl rfl rfl rfl rfl) (oL [] rfl (by kernel_rfl) (fl_call rfl Try.call51 rfl (by kernel_rfl) (by kernel_rfl) (zone_Itv_meets k3)) (oE tbok [] 4 (by kernel_rfl) trivial))) rfl rfl rfl u40 te53 (by decide) rfl rfl rfl (.sl _) (ys := List.map e_itv_Itv [v2]) rfl (app_len k4) rfl rfl (app_set (e := e_itv_Itv) k4 (by rfl)) ?_
      refine dl (t := 23) 7 [.c (.box 2 1)] rfl ?_
      obtain ⟨v4, k5, h⟩ := bindE h
      refine d_store (cs' := ([.pv (.bool v4.None), .row 3, .pv (.int .i64 v4.Z.N), .pv (.bool v4.Z.None)] ++ bs (e_T42 v4.Z.D))) (wm [0, 1, 0, 0, 12, 28, 63, 127, 255]) 8 rfl (by kernel_rfl) (by kernel_rfl) (by kernel_rfl) (by kernel_rfl) (by kernel_rfl) (gi0 rfl) (oE tbok [] 1 (by kernel_rfl) (oN 7 (by kernel_rfl) trivial)) rfl rfl ty40 rfl rfl rfl rfl rfl rfl (by rw [← retE k5]; kernel_rfl) (SetAt.eq (.s (.s .z))) ?_
      refine d_endS (env2 := [(1, [.c (.box 0 0)]), (2, [.c (.box 1 0)]), (3, [.c (.box 2 0)]), (12, [.c (.pv (.int .i64 (min (max a0.N 0) 6)))]), (13, [.c (.pv (.int .i64 x2.1))])]) (wm [0, 1, 0, 0, 12, 28, 63, 127, 255]) (by kernel_rfl) (by kernel_rfl) (by kernel_rfl) (oN 9 (by kernel_rfl) trivial) (sub_cons rfl (sub_cons rfl (sub_cons rfl (sub_cons rfl (sub_cons rfl sub_nil))))) (wB wT) ?_
      refine bN ?_
      refine then_ ?_
      refine region_ ?_
      refine R tbok 2 [13, 1, 2, 3, 12] [(13, [.c (.pv (.int .i64 (IntKind.i64.wrap (x2.1 + 1))))]), (1, [.c (.box 0 0)]), (2, [.c (.box 1 0)]), (3, [.c (.box 2 0)]), (12, [.c (.pv (.int .i64 (min (max a0.N 0) 6)))])] (by kernel_rfl) ?_
      refine ops_nil ?_
      obtain rfl := retE h
      refine lN ?_
      refine w_sub (env' := [(1, [.c (.box 0 0)]), (2, [.c (.box 1 0)]), (3, [.c (.box 2 0)]), (12, [.c (.pv (.int .i64 (min (max a0.N 0) 6)))]), (13, [.c (.pv (.int .i64 (IntKind.i64.wrap (x2.1 + 1))))])]) (sub_cons rfl (sub_cons rfl (sub_cons rfl (sub_cons rfl (sub_cons rfl sub_nil))))) ?_
      exact wkE (by kernel_rfl) (by kernel_rfl)
    · have h := iteF h k1
      refine exit_ ?_
      refine tX ?_
      obtain rfl := retE h
      refine lX ?_
      refine w_sub (env' := [(2, [.c (.box 1 0)]), (3, [.c (.box 2 0)])]) (sub_cons rfl (sub_cons rfl sub_nil)) ?_
      refine w_none 0 .z ?_
      exact wkE (by kernel_rfl) (by kernel_rfl)
  · cases h
  · have h := elimR h
    refine then_ ?_
    refine seq_ ?_
    refine region_ ?_
    refine R tbok 1 [25, 2] [(25, [.agg ([.pv (.bool j2.1.None), .row 3, .pv (.int .i64 j2.1.Z.N), .pv (.bool j2.1.Z.None)] ++ bs (e_T42 j2.1.Z.D))]), (2, [.c (.box 1 0)])] (by kernel_rfl) ?_
    refine S rfl rfl rfl ty46 (by decide) rfl rfl rfl rfl rfl (.all rfl) (.s .z) ?_
    refine ops_nil ?_
    refine then_ ?_
    refine ret_ ?_
    obtain rfl := retE h
    refine rwr (rw_ (.cellA (ys := ([.pv (.bool j2.1.None), .row 3, .pv (.int .i64 j2.1.Z.N), .pv (.bool j2.1.Z.None)] ++ bs (e_T42 j2.1.Z.D))) ty46 rfl rfl (by kernel_rfl) (by kernel_rfl) .nil) ?_)
    refine (w_freeze (b := 3) (env' := [(0, [.agg (bs (e_num_Num (num_Num.mk j2.1.None j2.2 j2.1.Z)))])]) (st' := [none, some (.box true 46 (bs (e_num_Num (num_Num.mk j2.1.None j2.2 j2.1.Z)))), some (.box true 46 (bs (e_num_Num (num_Num.mk j2.1.None j2.2 j2.1.Z)))), none]) rfl rfl rfl ?_)
    refine w_none 1 (.s .z) ?_
    refine w_none 2 (.s (.s .z)) ?_
    refine w_cut 0 rfl rfl rfl rfl ?_
    exact wkE (by kernel_rfl) (by kernel_rfl)

theorem num_Zeros_meets {a0 : Int} {r : num_Num} (h : num_Zeros a0 = some r) : MeetsV Try.prog GG 18 [.c (.pv (.int .i64 a0))] [.agg (bs (e_num_Num r))] := by
  refine MeetsS.toV (meetsW_of (st0 := []) (N := 6) r_num_Zeros o_num_Zeros r Try.func18 rfl rfl rfl (by dsimp only [argEnv]) rfl ?_) rfl
  unfold num_Zeros at h
  refine seq_ ?_
  refine region_ ?_
  refine B rfl rfl (bir_alloc rfl z46 rfl rfl) rfl rfl .z ?_
  refine ops_nil ?_
  refine then_ ?_
  refine seq_ ?_
  refine region_ ?_
  refine R tbok 1 [3, 2] [(3, [.c (.pv (.int .i64 a0))]), (2, [.c (.box 0 0)])] (by kernel_rfl) ?_
  obtain ⟨v1, k1, h⟩ := bindE h
  refine C rfl rfl (fl_call rfl Try.call35 rfl (by kernel_rfl) (by kernel_rfl) (zone_Zeros_meets k1)) rfl ?_
  obtain ⟨v2, k2, h⟩ := bindE h
  refine C rfl rfl (fl_call rfl Try.call34 rfl (by kernel_rfl) (by kernel_rfl) (num_of_meets k2)) rfl ?_
  refine S rfl rfl rfl ty46 (by decide) rfl rfl rfl rfl rfl (.all rfl) .z ?_
  refine ops_nil ?_
  refine then_ ?_
  refine ret_ ?_
  obtain rfl := retE h
  refine rwr (rw_ (.cellA (ys := (bs (e_num_Num v2))) ty46 rfl rfl (by kernel_rfl) (by kernel_rfl) .nil) ?_)
  refine w_none 0 .z ?_
  refine w_cut 0 rfl rfl rfl rfl ?_
  exact wkE (by kernel_rfl) (by kernel_rfl)

theorem rule_Start_meets {r : Int} (h : rule_Start = some r) : MeetsV Try.prog GG 20 [] [.c (.pv (.int .u8 r))] := by
  refine MeetsS.toV (meetsW_of (st0 := []) (N := 1) r_rule_Start o_rule_Start r Try.func20 rfl rfl rfl (by dsimp only [argEnv]) rfl ?_) rfl
  unfold rule_Start at h
  refine seq_ ?_
  refine region_ ?_
  refine R tbok 1 [0] [(0, [.c (.pv (.int .u8 0))])] (by kernel_rfl) ?_
  refine ops_nil ?_
  refine then_ ?_
  refine seq_ ?_
  refine region_ ?_
  refine R tbok 1 [0] [(0, [.c (.pv (.int .u8 1))])] (by kernel_rfl) ?_
  refine ops_nil ?_
  refine then_ ?_
  refine ret_ ?_
  obtain rfl := retE h
  refine rwr (rw_ (.tmp rfl .nil) ?_)
  exact wkE (by kernel_rfl) (by kernel_rfl)

theorem trans_Start_meets {a0 : flow_Sys} {a1 : Int} {r : trans_State} (h : trans_Start a0 a1 = some r) : MeetsV Try.prog GG 6 [.agg [.pv (.sl (List.map e_check_Chan a0.Chans)), .pv (.sl (List.map e_flow_Graph a0.Graphs)), .pv (.sl (List.map e_i64 a0.Vars))], .c (.pv (.int .i64 a1))] [.agg (bs (e_trans_State r))] := by
  refine MeetsS.toV (meetsW_of (st0 := []) (N := 30) r_trans_Start o_trans_Start r Try.func6 rfl rfl rfl (by dsimp only [argEnv]) rfl ?_) rfl
  unfold trans_Start at h
  refine seq_ ?_
  refine region_ ?_
  refine B rfl rfl (bir_box rfl rfl rfl) rfl rfl .z ?_
  refine B rfl rfl (bir_alloc rfl z49 rfl rfl) rfl rfl (.s .z) ?_
  refine ops_nil ?_
  refine then_ ?_
  refine seq_ ?_
  refine region_ ?_
  refine R tbok 2 [7, 6, 4, 2] [(7, [.c (.pv (.int .i64 a1))]), (6, [.agg [.pv (.sl (List.map e_check_Chan a0.Chans)), .pv (.sl (List.map e_flow_Graph a0.Graphs)), .pv (.sl (List.map e_i64 a0.Vars))]]), (4, [.c (.box 1 0)]), (2, [.c (.box 0 0)])] (by kernel_rfl) ?_
  obtain ⟨v1, k1, h⟩ := bindE h
  refine C rfl rfl (fl_call rfl Try.call19 rfl (by kernel_rfl) (by kernel_rfl) (trans_vars_meets k1)) rfl ?_
  obtain ⟨v2, k2, h⟩ := bindE h
  refine C rfl rfl (fl_call rfl Try.call18 rfl (by kernel_rfl) (by kernel_rfl) (num_Zeros_meets k2)) rfl ?_
  refine L rfl rfl (lt_build (cs := ([.pv (.bool v2.None), .pv (.sl (List.map e_itv_Itv v2.I)), .pv (.int .i64 v2.Z.N), .pv (.bool v2.Z.None)] ++ (bs (e_T42 v2.Z.D) ++ [.emp, .emp]))) rfl st49 rfl (by kernel_rfl)) rfl ?_
  refine B rfl rfl (bir_alloc rfl z49 rfl rfl) rfl rfl (.s (.s .z)) ?_
  refine S rfl rfl rfl ty49 (by decide) rfl rfl rfl rfl rfl (.all rfl) (.s (.s .z)) ?_
  refine ops_nil ?_
  refine then_ ?_
  refine seq_ ?_
  refine seq_ ?_
  refine region_ ?_
  refine R tbok 2 [12, 5, 4] [(12, [.c (.pv (.sl (List.map e_check_Chan a0.Chans)))]), (5, [.c (.box 2 0)]), (4, [.c (.box 1 0)])] (by kernel_rfl) ?_
  refine L rfl rfl (len_sl (e := e_check_Chan) rfl u37 rfl) rfl ?_
  refine R tbok 1 [14, 13, 5, 4] [(14, [.c (.pv (.int .i64 0))]), (13, [.c (.pv (.int .i64 (a0.Chans.length : Int)))]), (5, [.c (.box 2 0)]), (4, [.c (.box 1 0)])] (by kernel_rfl) ?_
  refine ops_nil ?_
  refine then_ ?_
  refine CodeT.weak (w_liftC 2 53 53 2 rfl rfl (.s (.s (.s (.s (.s (.s (.s (.s (.s (.s (.s (.s (.s (.s (.s (.s (.s (.s (.s (.s (.s (.s (.s (.s (.s (.s (.s (.s (.s (.s (.s (.s (.s (.s (.s (.s (.s (.s (.s (.s (.s (.s (.s (.s (.s (.s (.s (.s (.s (.s (.s (.s (.s .z))))))))))))))))))))))))))))))))))))))))))))))))))))) (.s (.s .z)) (.s (.s (.s .z))) (Weak.refl _)) ?_
  refine CodeT.weak (w_liftC 2 54 85 1 rfl rfl (.s (.s (.s (.s (.s (.s (.s (.s (.s (.s (.s (.s (.s (.s (.s (.s (.s (.s (.s (.s (.s (.s (.s (.s (.s (.s (.s (.s (.s (.s (.s (.s (.s (.s (.s (.s (.s (.s (.s (.s (.s (.s (.s (.s (.s (.s (.s (.s (.s (.s (.s (.s (.s (.s .z)))))))))))))))))))))))))))))))))))))))))))))))))))))) (.s (.s .z)) (.s (.s (.s (.s .z)))) (Weak.refl _)) ?_
  refine lp_ (Qr := RW Try.prog GG Try.f6 0 r_trans_Start o_trans_Start) (trans_Start_l3 a0) (fun (x3 : (Int × trans_State × (List itv_Itv) × (List Int))) => (⟨30, 0, [(4, [.c (.box 1 0)]), (5, [.c (.box 2 0)]), (13, [.c (.pv (.int .i64 (a0.Chans.length : Int)))]), (14, [.c (.pv (.int .i64 x3.1))])], [none, some (.box true 49 ([.pv (.bool false), .emp, .pv (.int .i64 0), .pv (.bool false)] ++ (bs (e_T42 (arr (arr 0 []) [(arr 0 [0, 0, 0, 0, 0, 0, 0]), (arr 0 [0, 0, 0, 0, 0, 0, 0]), (arr 0 [0, 0, 0, 0, 0, 0, 0]), (arr 0 [0, 0, 0, 0, 0, 0, 0]), (arr 0 [0, 0, 0, 0, 0, 0, 0]), (arr 0 [0, 0, 0, 0, 0, 0, 0]), (arr 0 [0, 0, 0, 0, 0, 0, 0])])) ++ [.emp, .emp]))), some (.box true 49 ([.pv (.bool x3.2.1.N.None), .pv (.sl (List.map e_itv_Itv x3.2.1.N.I)), .pv (.int .i64 x3.2.1.N.Z.N), .pv (.bool x3.2.1.N.Z.None)] ++ (bs (e_T42 x3.2.1.N.Z.D) ++ [.row 3, .row 4]))), some (.row true true 53 2 (List.map e_itv_Itv x3.2.2.1)), some (.row true true 85 1 (List.map e_rule_Set x3.2.2.2))]⟩ : Sx)) (fun (j3 : (trans_State × (List itv_Itv) × (List Int))) => (⟨30, 0, [(4, [.c (.box 1 0)]), (5, [.c (.box 2 0)])], [none, some (.box true 49 ([.pv (.bool false), .emp, .pv (.int .i64 0), .pv (.bool false)] ++ (bs (e_T42 (arr (arr 0 []) [(arr 0 [0, 0, 0, 0, 0, 0, 0]), (arr 0 [0, 0, 0, 0, 0, 0, 0]), (arr 0 [0, 0, 0, 0, 0, 0, 0]), (arr 0 [0, 0, 0, 0, 0, 0, 0]), (arr 0 [0, 0, 0, 0, 0, 0, 0]), (arr 0 [0, 0, 0, 0, 0, 0, 0]), (arr 0 [0, 0, 0, 0, 0, 0, 0])])) ++ [.emp, .emp]))), some (.box true 49 ([.pv (.bool j3.1.N.None), .pv (.sl (List.map e_itv_Itv j3.1.N.I)), .pv (.int .i64 j3.1.N.Z.N), .pv (.bool j3.1.N.Z.None)] ++ (bs (e_T42 j3.1.N.Z.D) ++ [.row 3, .row 4]))), some (.row true true 53 2 (List.map e_itv_Itv j3.2.1)), some (.row true true 85 1 (List.map e_rule_Set j3.2.2))]⟩ : Sx)) (0, (trans_State.mk v2 [] []), [], []) RW.only h wT ?_ (fun x3 o h => ?_) (fun r h s' hs => ?_) (fun j3 h => ?_)
  · refine w_sub (env' := [(4, [.c (.box 1 0)]), (5, [.c (.box 2 0)]), (13, [.c (.pv (.int .i64 (a0.Chans.length : Int)))]), (14, [.c (.pv (.int .i64 0))])]) (sub_cons rfl (sub_cons rfl (sub_cons rfl (sub_cons rfl sub_nil)))) ?_
    refine w_none 0 .z ?_
    refine w_ch 3 rfl (.s (.s (.s .z))) ?_
    refine w_ch 4 rfl (.s (.s (.s (.s .z)))) ?_
    exact wkE (by kernel_rfl) (by kernel_rfl)
  · unfold trans_Start_l3 at h
    refine seq_ ?_
    refine region_ ?_
    refine R tbok 1 [15, 4, 5, 13, 14] [(15, [.c (.pv (.bool (decide (x3.1 < (a0.Chans.length : Int)))))]), (4, [.c (.box 1 0)]), (5, [.c (.box 2 0)]), (13, [.c (.pv (.int .i64 (a0.Chans.length : Int)))]), (14, [.c (.pv (.int .i64 x3.1))])] (by kernel_rfl) ?_
    refine ops_nil ?_
    refine then_ ?_
    refine seq_ ?_
    refine cond_ (b := (decide (x3.1 < (a0.Chans.length : Int)))) rfl (fun k3 => ?_) (fun k3 => ?_)
    · have h := iteT h k3
      refine skip_ ?_
      refine then_ ?_
      refine seq_ ?_
      refine block_ ?_
      refine drawn_ mixed ?_
      refine dl (t := 16) 0 [.c (.box 2 53)] rfl ?_
      refine dl (t := 17) 1 [.c (.row 3)] rfl ?_
      obtain ⟨v4, k5, h⟩ := bindE h
      refine dl (t := 18) 2 [.agg [.pv (.int .i64 v4.Lo), .pv (.int .i64 v4.Hi)]] rfl ?_
      refine dl (t := 19) 3 [.c (.pv (.sl (List.map e_itv_Itv [v4])))] rfl ?_
      refine dl (t := 21) 5 [.c (.box 2 54)] rfl ?_
      refine dl (t := 22) 6 [.c (.row 4)] rfl ?_
      obtain ⟨v5, k6, h⟩ := bindE h
      refine d_append (env1 := [(15, [.c (.pv (.bool (decide (x3.1 < (a0.Chans.length : Int)))))]), (4, [.c (.box 1 0)]), (5, [.c (.box 2 0)]), (13, [.c (.pv (.int .i64 (a0.Chans.length : Int)))]), (14, [.c (.pv (.int .i64 x3.1))])]) (T1 := [⟨6, some 22, [.c (.row 4)], .light⟩, ⟨5, some 21, [.c (.box 2 54)], .light⟩, ⟨3, some 19, [.c (.pv (.sl (List.map e_itv_Itv [v4])))], .light⟩, ⟨2, some 18, [.agg [.pv (.int .i64 v4.Lo), .pv (.int .i64 v4.Hi)]], .light⟩, ⟨1, some 17, [.c (.any)], .light⟩, ⟨0, some 16, [.c (.box 2 53)], .light⟩]) (st' := [none, some (.box true 49 ([.pv (.bool false), .emp, .pv (.int .i64 0), .pv (.bool false)] ++ (bs (e_T42 (arr (arr 0 []) [(arr 0 [0, 0, 0, 0, 0, 0, 0]), (arr 0 [0, 0, 0, 0, 0, 0, 0]), (arr 0 [0, 0, 0, 0, 0, 0, 0]), (arr 0 [0, 0, 0, 0, 0, 0, 0]), (arr 0 [0, 0, 0, 0, 0, 0, 0]), (arr 0 [0, 0, 0, 0, 0, 0, 0]), (arr 0 [0, 0, 0, 0, 0, 0, 0])])) ++ [.emp, .emp]))), some (.box true 49 ([.pv (.bool x3.2.1.N.None), .pv (.sl (List.map e_itv_Itv x3.2.1.N.I)), .pv (.int .i64 x3.2.1.N.Z.N), .pv (.bool x3.2.1.N.Z.None)] ++ (bs (e_T42 x3.2.1.N.Z.D) ++ [.any, .row 4]))), some (.row true true 53 2 (List.map e_itv_Itv v5)), some (.row true true 85 1 (List.map e_rule_Set x3.2.2.2))]) (wm [0, 1, 0, 4, 15, 0, 32, 31, 159, 511, 127, 2047, 4095, 8191]) 4 rfl (by kernel_rfl) (by kernel_rfl) (by kernel_rfl) (by kernel_rfl) (by kernel_rfl) (gi0 rfl) (oE tbok [] 2 (by kernel_rfl) (oL [] rfl (by kernel_rfl) (fl_slice (List.map e_itv_Itv [v4]) rfl sl40 rfl rfl rfl rfl rfl rfl rfl) (oL [] rfl (by kernel_rfl) (fl_call rfl Try.call15 rfl (by kernel_rfl) (by kernel_rfl) (itv_Const_meets k5)) (oE tbok [] 2 (by kernel_rfl) trivial)))) rfl rfl rfl u40 te53 (by decide) rfl rfl rfl (.sl _) (ys := List.map e_itv_Itv [v4]) rfl (app_len k6) rfl rfl (app_set (e := e_itv_Itv) k6 (by rfl)) ?_
      obtain ⟨v7, k8, h⟩ := bindE h
      refine dl (t := 23) 7 [.c (.pv (.int .u8 v7))] rfl ?_
      refine dl (t := 24) 8 [.c (.pv (.sl (List.map e_rule_Set [v7])))] rfl ?_
      refine dl (t := 26) 10 [.c (.box 2 53)] rfl ?_
      obtain ⟨v8, k9, h⟩ := bindE h
      refine d_append (env1 := [(15, [.c (.pv (.bool (decide (x3.1 < (a0.Chans.length : Int)))))]), (4, [.c (.box 1 0)]), (5, [.c (.box 2 0)]), (13, [.c (.pv (.int .i64 (a0.Chans.length : Int)))]), (14, [.c (.pv (.int .i64 x3.1))])]) (T1 := [⟨10, some 26, [.c (.box 2 53)], .light⟩, ⟨8, some 24, [.c (.pv (.sl (List.map e_rule_Set [v7])))], .light⟩, ⟨7, some 23, [.c (.pv (.int .u8 v7))], .light⟩, ⟨4, some 20, [.c (.row 3)], .heavy⟩, ⟨6, some 22, [.c (.any)], .light⟩, ⟨5, some 21, [.c (.box 2 54)], .light⟩, ⟨3, some 19, [.c (.pv (.sl (List.map e_itv_Itv [v4])))], .light⟩, ⟨2, some 18, [.agg [.pv (.int .i64 v4.Lo), .pv (.int .i64 v4.Hi)]], .light⟩, ⟨1, some 17, [.c (.any)], .light⟩, ⟨0, some 16, [.c (.box 2 53)], .light⟩]) (st' := [none, some (.box true 49 ([.pv (.bool false), .emp, .pv (.int .i64 0), .pv (.bool false)] ++ (bs (e_T42 (arr (arr 0 []) [(arr 0 [0, 0, 0, 0, 0, 0, 0]), (arr 0 [0, 0, 0, 0, 0, 0, 0]), (arr 0 [0, 0, 0, 0, 0, 0, 0]), (arr 0 [0, 0, 0, 0, 0, 0, 0]), (arr 0 [0, 0, 0, 0, 0, 0, 0]), (arr 0 [0, 0, 0, 0, 0, 0, 0]), (arr 0 [0, 0, 0, 0, 0, 0, 0])])) ++ [.emp, .emp]))), some (.box true 49 ([.pv (.bool x3.2.1.N.None), .pv (.sl (List.map e_itv_Itv x3.2.1.N.I)), .pv (.int .i64 x3.2.1.N.Z.N), .pv (.bool x3.2.1.N.Z.None)] ++ (bs (e_T42 x3.2.1.N.Z.D) ++ [.any, .any]))), some (.row true true 53 2 (List.map e_itv_Itv v5)), some (.row true true 85 1 (List.map e_rule_Set v8))]) (wm [0, 1, 0, 4, 15, 0, 32, 31, 159, 511, 127, 2047, 4095, 8191]) 9 rfl (by kernel_rfl) (by kernel_rfl) (by kernel_rfl) (by kernel_rfl) (by kernel_rfl) (gi0 rfl) (oE tbok [] 1 (by kernel_rfl) (oL [] rfl (by kernel_rfl) (fl_slice (List.map e_rule_Set [v7]) rfl sl47 rfl rfl rfl rfl rfl rfl rfl) (oL [] rfl (by kernel_rfl) (fl_call rfl Try.call20 rfl (by kernel_rfl) (by kernel_rfl) (rule_Start_meets k8)) (oN 1 (by kernel_rfl) (oE tbok [] 2 (by kernel_rfl) (oN 4 (by kernel_rfl) trivial)))))) rfl rfl rfl u47 te85 (by decide) rfl rfl rfl (.sl _) (ys := List.map e_rule_Set [v7]) rfl (app_len k9) rfl rfl (app_set (e := e_rule_Set) k9 (by rfl)) ?_
      refine d_store (cs' := ([.pv (.bool x3.2.1.N.None), .pv (.sl (List.map e_itv_Itv x3.2.1.N.I)), .pv (.int .i64 x3.2.1.N.Z.N), .pv (.bool x3.2.1.N.Z.None)] ++ (bs (e_T42 x3.2.1.N.Z.D) ++ [.row 3, .any]))) (wm [0, 1, 0, 4, 15, 0, 32, 31, 159, 511, 127, 2047, 4095, 8191]) 11 rfl (by kernel_rfl) (by kernel_rfl) (by kernel_rfl) (by kernel_rfl) (by kernel_rfl) (gi0 rfl) (oN 1 (by kernel_rfl) (oE tbok [] 1 (by kernel_rfl) (oN 9 (by kernel_rfl) trivial))) rfl rfl ty40 rfl rfl rfl rfl rfl rfl (by kernel_rfl) (SetAt.eq (.s (.s .z))) ?_
      refine dl (t := 27) 12 [.c (.box 2 54)] rfl ?_
      obtain ⟨v9, k10, h⟩ := bindE h
      refine d_store (cs' := ([.pv (.bool v9.N.None), .pv (.sl (List.map e_itv_Itv v9.N.I)), .pv (.int .i64 v9.N.Z.N), .pv (.bool v9.N.Z.None)] ++ (bs (e_T42 v9.N.Z.D) ++ [.row 3, .row 4]))) (wm [0, 1, 0, 4, 15, 0, 32, 31, 159, 511, 127, 2047, 4095, 8191]) 13 rfl (by kernel_rfl) (by kernel_rfl) (by kernel_rfl) (by kernel_rfl) (by kernel_rfl) (gi0 rfl) (oE tbok [] 1 (by kernel_rfl) (oN 12 (by kernel_rfl) trivial)) rfl rfl ty47 rfl rfl rfl rfl rfl rfl (by rw [← retE k10]; kernel_rfl) (SetAt.eq (.s (.s .z))) ?_
      refine d_endS (env2 := [(4, [.c (.box 1 0)]), (5, [.c (.box 2 0)]), (13, [.c (.pv (.int .i64 (a0.Chans.length : Int)))]), (14, [.c (.pv (.int .i64 x3.1))])]) (wm [0, 1, 0, 4, 15, 0, 32, 31, 159, 511, 127, 2047, 4095, 8191]) (by kernel_rfl) (by kernel_rfl) (by kernel_rfl) (oN 14 (by kernel_rfl) trivial) (sub_cons rfl (sub_cons rfl (sub_cons rfl (sub_cons rfl sub_nil)))) (wB wT) ?_
      refine bN ?_
      refine then_ ?_
      refine region_ ?_
      refine R tbok 2 [14, 4, 5, 13] [(14, [.c (.pv (.int .i64 (IntKind.i64.wrap (x3.1 + 1))))]), (4, [.c (.box 1 0)]), (5, [.c (.box 2 0)]), (13, [.c (.pv (.int .i64 (a0.Chans.length : Int)))])] (by kernel_rfl) ?_
      refine ops_nil ?_
      obtain rfl := retE h
      refine lN ?_
      refine w_sub (env' := [(4, [.c (.box 1 0)]), (5, [.c (.box 2 0)]), (13, [.c (.pv (.int .i64 (a0.Chans.length : Int)))]), (14, [.c (.pv (.int .i64 (IntKind.i64.wrap (x3.1 + 1))))])]) (sub_cons rfl (sub_cons rfl (sub_cons rfl (sub_cons rfl sub_nil)))) ?_
      exact wkE (by kernel_rfl) (by kernel_rfl)
    · have h := iteF h k3
      refine exit_ ?_
      refine tX ?_
      obtain rfl := retE h
      refine lX ?_
      refine w_sub (env' := [(4, [.c (.box 1 0)]), (5, [.c (.box 2 0)])]) (sub_cons rfl (sub_cons rfl sub_nil)) ?_
      exact wkE (by kernel_rfl) (by kernel_rfl)
  · cases h
  · have h := elimR h
    refine then_ ?_
    refine seq_ ?_
    refine region_ ?_
    refine R tbok 1 [29, 4] [(29, [.agg ([.pv (.bool j3.1.N.None), .pv (.sl (List.map e_itv_Itv j3.1.N.I)), .pv (.int .i64 j3.1.N.Z.N), .pv (.bool j3.1.N.Z.None)] ++ (bs (e_T42 j3.1.N.Z.D) ++ [.row 3, .row 4]))]), (4, [.c (.box 1 0)])] (by kernel_rfl) ?_
    refine S rfl rfl rfl ty49 (by decide) rfl rfl rfl rfl rfl (.all rfl) (.s .z) ?_
    refine ops_nil ?_
    refine then_ ?_
    refine ret_ ?_
    obtain rfl := retE h
    refine rwr (rw_ (.cellA (ys := ([.pv (.bool j3.1.N.None), .pv (.sl (List.map e_itv_Itv j3.1.N.I)), .pv (.int .i64 j3.1.N.Z.N), .pv (.bool j3.1.N.Z.None)] ++ (bs (e_T42 j3.1.N.Z.D) ++ [.row 3, .row 4]))) ty49 rfl rfl (by kernel_rfl) (by kernel_rfl) .nil) ?_)
    refine (w_freeze (b := 3) (env' := [(0, [.agg ([.pv (.bool j3.1.N.None), .pv (.sl (List.map e_itv_Itv j3.1.N.I)), .pv (.int .i64 j3.1.N.Z.N), .pv (.bool j3.1.N.Z.None)] ++ (bs (e_T42 j3.1.N.Z.D) ++ [.pv (.sl (List.map e_itv_Itv j3.2.1)), .row 4]))])]) (st' := [none, some (.box true 49 ([.pv (.bool j3.1.N.None), .pv (.sl (List.map e_itv_Itv j3.1.N.I)), .pv (.int .i64 j3.1.N.Z.N), .pv (.bool j3.1.N.Z.None)] ++ (bs (e_T42 j3.1.N.Z.D) ++ [.pv (.sl (List.map e_itv_Itv j3.2.1)), .row 4]))), some (.box true 49 ([.pv (.bool j3.1.N.None), .pv (.sl (List.map e_itv_Itv j3.1.N.I)), .pv (.int .i64 j3.1.N.Z.N), .pv (.bool j3.1.N.Z.None)] ++ (bs (e_T42 j3.1.N.Z.D) ++ [.pv (.sl (List.map e_itv_Itv j3.2.1)), .row 4]))), none, some (.row true true 85 1 (List.map e_rule_Set j3.2.2))]) rfl rfl rfl ?_)
    refine (w_freeze (b := 4) (env' := [(0, [.agg (bs (e_trans_State (trans_State.mk j3.1.N j3.2.1 j3.2.2)))])]) (st' := [none, some (.box true 49 (bs (e_trans_State (trans_State.mk j3.1.N j3.2.1 j3.2.2)))), some (.box true 49 (bs (e_trans_State (trans_State.mk j3.1.N j3.2.1 j3.2.2)))), none, none]) rfl rfl rfl ?_)
    refine w_none 1 (.s .z) ?_
    refine w_none 2 (.s (.s .z)) ?_
    refine w_cut 0 rfl rfl rfl rfl ?_
    exact wkE (by kernel_rfl) (by kernel_rfl)

theorem trans_Empty_meets {a0 : trans_State} {r : Bool} (h : trans_Empty a0 = some r) : MeetsV Try.prog GG 10 [.agg (bs (e_trans_State a0))] [.c (.pv (.bool r))] := by
  refine MeetsS.toV (meetsW_of (st0 := []) (N := 6) r_trans_Empty o_trans_Empty r Try.func10 rfl rfl rfl (by dsimp only [argEnv]) rfl ?_) rfl
  unfold trans_Empty at h
  refine seq_ ?_
  refine region_ ?_
  refine B rfl rfl (bir_box rfl rfl rfl) rfl rfl .z ?_
  refine R tbok 1 [2, 1] [(2, [.c (.pv (.bool false))]), (1, [.c (.box 0 0)])] (by kernel_rfl) ?_
  refine ops_nil ?_
  refine then_ ?_
  refine seq_ ?_
  refine region_ ?_
  refine R tbok 4 [2] [(2, [.c (.pv (.bool a0.N.None))])] (by kernel_rfl) ?_
  refine ops_nil ?_
  refine then_ ?_
  refine ret_ ?_
  obtain rfl := retE h
  refine rwr (rw_ (.tmp rfl .nil) ?_)
  refine w_none 0 .z ?_
  refine w_cut 0 rfl rfl rfl rfl ?_
  exact wkE (by kernel_rfl) (by kernel_rfl)

theorem num_None_meets {a0 : Int} {r : num_Num} (h : num_None a0 = some r) : MeetsV Try.prog GG 38 [.c (.pv (.int .i64 a0))] [.agg (bs (e_num_Num r))] := by
  refine MeetsS.toV (meetsW_of (st0 := []) (N := 8) r_num_None o_num_None r Try.func38 rfl rfl rfl (by dsimp only [argEnv]) rfl ?_) rfl
  unfold num_None at h
  refine seq_ ?_
  refine region_ ?_
  refine B rfl rfl (bir_alloc rfl z46 rfl rfl) rfl rfl .z ?_
  refine ops_nil ?_
  refine then_ ?_
  refine seq_ ?_
  refine region_ ?_
  refine R tbok 1 [3, 2] [(3, [.c (.pv (.int .i64 a0))]), (2, [.c (.box 0 0)])] (by kernel_rfl) ?_
  refine L rfl rfl (lt_max2 rfl rfl rfl) rfl ?_
  refine L rfl rfl (lt_min2 rfl rfl rfl) rfl ?_
  refine L rfl rfl (lt_build (cs := (bs (e_zone_Zone (zone_Zone.mk (min (max a0 0) 6) true (arr (arr 0 []) [(arr 0 [0, 0, 0, 0, 0, 0, 0]), (arr 0 [0, 0, 0, 0, 0, 0, 0]), (arr 0 [0, 0, 0, 0, 0, 0, 0]), (arr 0 [0, 0, 0, 0, 0, 0, 0]), (arr 0 [0, 0, 0, 0, 0, 0, 0]), (arr 0 [0, 0, 0, 0, 0, 0, 0]), (arr 0 [0, 0, 0, 0, 0, 0, 0])]))))) rfl st44 rfl (by kernel_rfl)) rfl ?_
  obtain ⟨v1, k1, h⟩ := bindE h
  refine C rfl rfl (fl_call rfl Try.call34 rfl (by kernel_rfl) (by kernel_rfl) (num_of_meets k1)) rfl ?_
  refine S rfl rfl rfl ty46 (by decide) rfl rfl rfl rfl rfl (.all rfl) .z ?_
  refine ops_nil ?_
  refine then_ ?_
  refine ret_ ?_
  obtain rfl := retE h
  refine rwr (rw_ (.cellA (ys := (bs (e_num_Num v1))) ty46 rfl rfl (by kernel_rfl) (by kernel_rfl) .nil) ?_)
  refine w_none 0 .z ?_
  refine w_cut 0 rfl rfl rfl rfl ?_
  exact wkE (by kernel_rfl) (by kernel_rfl)

theorem trans_None_meets {a0 : flow_Sys} {a1 : Int} {r : trans_State} (h : trans_None a0 a1 = some r) : MeetsV Try.prog GG 23 [.agg [.pv (.sl (List.map e_check_Chan a0.Chans)), .pv (.sl (List.map e_flow_Graph a0.Graphs)), .pv (.sl (List.map e_i64 a0.Vars))], .c (.pv (.int .i64 a1))] [.agg (bs (e_trans_State r))] := by
  refine MeetsS.toV (meetsW_of (st0 := []) (N := 29) r_trans_None o_trans_None r Try.func23 rfl rfl rfl (by dsimp only [argEnv]) rfl ?_) rfl
  unfold trans_None at h
  refine seq_ ?_
  refine region_ ?_
  refine B rfl rfl (bir_box rfl rfl rfl) rfl rfl .z ?_
  refine B rfl rfl (bir_alloc rfl z49 rfl rfl) rfl rfl (.s .z) ?_
  refine ops_nil ?_
  refine then_ ?_
  refine seq_ ?_
  refine region_ ?_
  refine R tbok 2 [7, 6, 4, 2] [(7, [.c (.pv (.int .i64 a1))]), (6, [.agg [.pv (.sl (List.map e_check_Chan a0.Chans)), .pv (.sl (List.map e_flow_Graph a0.Graphs)), .pv (.sl (List.map e_i64 a0.Vars))]]), (4, [.c (.box 1 0)]), (2, [.c (.box 0 0)])] (by kernel_rfl) ?_
  obtain ⟨v1, k1, h⟩ := bindE h
  refine C rfl rfl (fl_call rfl Try.call19 rfl (by kernel_rfl) (by kernel_rfl) (trans_vars_meets k1)) rfl ?_
  obtain ⟨v2, k2, h⟩ := bindE h
  refine C rfl rfl (fl_call rfl Try.call38 rfl (by kernel_rfl) (by kernel_rfl) (num_None_meets k2)) rfl ?_
  refine L rfl rfl (lt_build (cs := ([.pv (.bool v2.None), .pv (.sl (List.map e_itv_Itv v2.I)), .pv (.int .i64 v2.Z.N), .pv (.bool v2.Z.None)] ++ (bs (e_T42 v2.Z.D) ++ [.emp, .emp]))) rfl st49 rfl (by kernel_rfl)) rfl ?_
  refine B rfl rfl (bir_alloc rfl z49 rfl rfl) rfl rfl (.s (.s .z)) ?_
  refine S rfl rfl rfl ty49 (by decide) rfl rfl rfl rfl rfl (.all rfl) (.s (.s .z)) ?_
  refine ops_nil ?_
  refine then_ ?_
  refine seq_ ?_
  refine seq_ ?_
  refine region_ ?_
  refine R tbok 2 [12, 5, 4] [(12, [.c (.pv (.sl (List.map e_check_Chan a0.Chans)))]), (5, [.c (.box 2 0)]), (4, [.c (.box 1 0)])] (by kernel_rfl) ?_
  refine L rfl rfl (len_sl (e := e_check_Chan) rfl u37 rfl) rfl ?_
  refine R tbok 1 [14, 13, 5, 4] [(14, [.c (.pv (.int .i64 0))]), (13, [.c (.pv (.int .i64 (a0.Chans.length : Int)))]), (5, [.c (.box 2 0)]), (4, [.c (.box 1 0)])] (by kernel_rfl) ?_
  refine ops_nil ?_
  refine then_ ?_
  refine CodeT.weak (w_liftC 2 53 53 2 rfl rfl (.s (.s (.s (.s (.s (.s (.s (.s (.s (.s (.s (.s (.s (.s (.s (.s (.s (.s (.s (.s (.s (.s (.s (.s (.s (.s (.s (.s (.s (.s (.s (.s (.s (.s (.s (.s (.s (.s (.s (.s (.s (.s (.s (.s (.s (.s (.s (.s (.s (.s (.s (.s (.s .z))))))))))))))))))))))))))))))))))))))))))))))))))))) (.s (.s .z)) (.s (.s (.s .z))) (Weak.refl _)) ?_
  refine CodeT.weak (w_liftC 2 54 85 1 rfl rfl (.s (.s (.s (.s (.s (.s (.s (.s (.s (.s (.s (.s (.s (.s (.s (.s (.s (.s (.s (.s (.s (.s (.s (.s (.s (.s (.s (.s (.s (.s (.s (.s (.s (.s (.s (.s (.s (.s (.s (.s (.s (.s (.s (.s (.s (.s (.s (.s (.s (.s (.s (.s (.s (.s .z)))))))))))))))))))))))))))))))))))))))))))))))))))))) (.s (.s .z)) (.s (.s (.s (.s .z)))) (Weak.refl _)) ?_
  refine lp_ (Qr := RW Try.prog GG Try.f23 0 r_trans_None o_trans_None) (trans_None_l3 a0) (fun (x3 : (Int × trans_State × (List itv_Itv) × (List Int))) => (⟨29, 0, [(4, [.c (.box 1 0)]), (5, [.c (.box 2 0)]), (13, [.c (.pv (.int .i64 (a0.Chans.length : Int)))]), (14, [.c (.pv (.int .i64 x3.1))])], [none, some (.box true 49 ([.pv (.bool false), .emp, .pv (.int .i64 0), .pv (.bool false)] ++ (bs (e_T42 (arr (arr 0 []) [(arr 0 [0, 0, 0, 0, 0, 0, 0]), (arr 0 [0, 0, 0, 0, 0, 0, 0]), (arr 0 [0, 0, 0, 0, 0, 0, 0]), (arr 0 [0, 0, 0, 0, 0, 0, 0]), (arr 0 [0, 0, 0, 0, 0, 0, 0]), (arr 0 [0, 0, 0, 0, 0, 0, 0]), (arr 0 [0, 0, 0, 0, 0, 0, 0])])) ++ [.emp, .emp]))), some (.box true 49 ([.pv (.bool x3.2.1.N.None), .pv (.sl (List.map e_itv_Itv x3.2.1.N.I)), .pv (.int .i64 x3.2.1.N.Z.N), .pv (.bool x3.2.1.N.Z.None)] ++ (bs (e_T42 x3.2.1.N.Z.D) ++ [.row 3, .row 4]))), some (.row true true 53 2 (List.map e_itv_Itv x3.2.2.1)), some (.row true true 85 1 (List.map e_rule_Set x3.2.2.2))]⟩ : Sx)) (fun (j3 : (trans_State × (List itv_Itv) × (List Int))) => (⟨29, 0, [(4, [.c (.box 1 0)]), (5, [.c (.box 2 0)])], [none, some (.box true 49 ([.pv (.bool false), .emp, .pv (.int .i64 0), .pv (.bool false)] ++ (bs (e_T42 (arr (arr 0 []) [(arr 0 [0, 0, 0, 0, 0, 0, 0]), (arr 0 [0, 0, 0, 0, 0, 0, 0]), (arr 0 [0, 0, 0, 0, 0, 0, 0]), (arr 0 [0, 0, 0, 0, 0, 0, 0]), (arr 0 [0, 0, 0, 0, 0, 0, 0]), (arr 0 [0, 0, 0, 0, 0, 0, 0]), (arr 0 [0, 0, 0, 0, 0, 0, 0])])) ++ [.emp, .emp]))), some (.box true 49 ([.pv (.bool j3.1.N.None), .pv (.sl (List.map e_itv_Itv j3.1.N.I)), .pv (.int .i64 j3.1.N.Z.N), .pv (.bool j3.1.N.Z.None)] ++ (bs (e_T42 j3.1.N.Z.D) ++ [.row 3, .row 4]))), some (.row true true 53 2 (List.map e_itv_Itv j3.2.1)), some (.row true true 85 1 (List.map e_rule_Set j3.2.2))]⟩ : Sx)) (0, (trans_State.mk v2 [] []), [], []) RW.only h wT ?_ (fun x3 o h => ?_) (fun r h s' hs => ?_) (fun j3 h => ?_)
  · refine w_sub (env' := [(4, [.c (.box 1 0)]), (5, [.c (.box 2 0)]), (13, [.c (.pv (.int .i64 (a0.Chans.length : Int)))]), (14, [.c (.pv (.int .i64 0))])]) (sub_cons rfl (sub_cons rfl (sub_cons rfl (sub_cons rfl sub_nil)))) ?_
    refine w_none 0 .z ?_
    refine w_ch 3 rfl (.s (.s (.s .z))) ?_
    refine w_ch 4 rfl (.s (.s (.s (.s .z)))) ?_
    exact wkE (by kernel_rfl) (by kernel_rfl)
  · unfold trans_None_l3 at h
    refine seq_ ?_
    refine region_ ?_
    refine R tbok 1 [15, 4, 5, 13, 14] [(15, [.c (.pv (.bool (decide (x3.1 < (a0.Chans.length : Int)))))]), (4, [.c (.box 1 0)]), (5, [.c (.box 2 0)]), (13, [.c (.pv (.int .i64 (a0.Chans.length : Int)))]), (14, [.c (.pv (.int .i64 x3.1))])] (by kernel_rfl) ?_
    refine ops_nil ?_
    refine then_ ?_
    refine seq_ ?_
    refine cond_ (b := (decide (x3.1 < (a0.Chans.length : Int)))) rfl (fun k3 => ?_) (fun k3 => ?_)
    · have h := iteT h k3
      refine skip_ ?_
      refine then_ ?_
      refine seq_ ?_
      refine block_ ?_
      refine drawn_ mixed ?_
      refine dl (t := 16) 0 [.c (.box 2 53)] rfl ?_
      refine dl (t := 17) 1 [.c (.row 3)] rfl ?_
      obtain ⟨v4, k5, h⟩ := bindE h
      refine dl (t := 18) 2 [.agg [.pv (.int .i64 v4.Lo), .pv (.int .i64 v4.Hi)]] rfl ?_
      refine dl (t := 19) 3 [.c (.pv (.sl (List.map e_itv_Itv [v4])))] rfl ?_
      refine dl (t := 21) 5 [.c (.box 2 54)] rfl ?_
      refine dl (t := 22) 6 [.c (.row 4)] rfl ?_
      refine dl (t := 23) 7 [.c (.pv (.sl (List.map e_rule_Set [0])))] rfl ?_
      obtain ⟨v5, k6, h⟩ := bindE h
      refine d_append (env1 := [(15, [.c (.pv (.bool (decide (x3.1 < (a0.Chans.length : Int)))))]), (4, [.c (.box 1 0)]), (5, [.c (.box 2 0)]), (13, [.c (.pv (.int .i64 (a0.Chans.length : Int)))]), (14, [.c (.pv (.int .i64 x3.1))])]) (T1 := [⟨7, some 23, [.c (.pv (.sl (List.map e_rule_Set [0])))], .light⟩, ⟨6, some 22, [.c (.row 4)], .light⟩, ⟨5, some 21, [.c (.box 2 54)], .light⟩, ⟨3, some 19, [.c (.pv (.sl (List.map e_itv_Itv [v4])))], .light⟩, ⟨2, some 18, [.agg [.pv (.int .i64 v4.Lo), .pv (.int .i64 v4.Hi)]], .light⟩, ⟨1, some 17, [.c (.any)], .light⟩, ⟨0, some 16, [.c (.box 2 53)], .light⟩]) (st' := [none, some (.box true 49 ([.pv (.bool false), .emp, .pv (.int .i64 0), .pv (.bool false)] ++ (bs (e_T42 (arr (arr 0 []) [(arr 0 [0, 0, 0, 0, 0, 0, 0]), (arr 0 [0, 0, 0, 0, 0, 0, 0]), (arr 0 [0, 0, 0, 0, 0, 0, 0]), (arr 0 [0, 0, 0, 0, 0, 0, 0]), (arr 0 [0, 0, 0, 0, 0, 0, 0]), (arr 0 [0, 0, 0, 0, 0, 0, 0]), (arr 0 [0, 0, 0, 0, 0, 0, 0])])) ++ [.emp, .emp]))), some (.box true 49 ([.pv (.bool x3.2.1.N.None), .pv (.sl (List.map e_itv_Itv x3.2.1.N.I)), .pv (.int .i64 x3.2.1.N.Z.N), .pv (.bool x3.2.1.N.Z.None)] ++ (bs (e_T42 x3.2.1.N.Z.D) ++ [.any, .row 4]))), some (.row true true 53 2 (List.map e_itv_Itv v5)), some (.row true true 85 1 (List.map e_rule_Set x3.2.2.2))]) (wm [0, 1, 0, 4, 15, 0, 32, 0, 255, 127, 1023, 2047, 4095]) 4 rfl (by kernel_rfl) (by kernel_rfl) (by kernel_rfl) (by kernel_rfl) (by kernel_rfl) (gi0 rfl) (oL [] rfl (by kernel_rfl) (fl_slice (List.map e_rule_Set [0]) rfl sl47 rfl rfl rfl rfl rfl rfl rfl) (oE tbok [] 2 (by kernel_rfl) (oL [] rfl (by kernel_rfl) (fl_slice (List.map e_itv_Itv [v4]) rfl sl40 rfl rfl rfl rfl rfl rfl rfl) (oL [] rfl (by kernel_rfl) (fl_call rfl Try.call22 rfl (by kernel_rfl) (by kernel_rfl) (itv_None_meets k5)) (oE tbok [] 2 (by kernel_rfl) trivial))))) rfl rfl rfl u40 te53 (by decide) rfl rfl rfl (.sl _) (ys := List.map e_itv_Itv [v4]) rfl (app_len k6) rfl rfl (app_set (e := e_itv_Itv) k6 (by rfl)) ?_
      refine dl (t := 25) 9 [.c (.box 2 53)] rfl ?_
      obtain ⟨v6, k7, h⟩ := bindE h
      refine d_append (env1 := [(15, [.c (.pv (.bool (decide (x3.1 < (a0.Chans.length : Int)))))]), (4, [.c (.box 1 0)]), (5, [.c (.box 2 0)]), (13, [.c (.pv (.int .i64 (a0.Chans.length : Int)))]), (14, [.c (.pv (.int .i64 x3.1))])]) (T1 := [⟨9, some 25, [.c (.box 2 53)], .light⟩, ⟨4, some 20, [.c (.row 3)], .heavy⟩, ⟨7, some 23, [.c (.pv (.sl (List.map e_rule_Set [0])))], .light⟩, ⟨6, some 22, [.c (.any)], .light⟩, ⟨5, some 21, [.c (.box 2 54)], .light⟩, ⟨3, some 19, [.c (.pv (.sl (List.map e_itv_Itv [v4])))], .light⟩, ⟨2, some 18, [.agg [.pv (.int .i64 v4.Lo), .pv (.int .i64 v4.Hi)]], .light⟩, ⟨1, some 17, [.c (.any)], .light⟩, ⟨0, some 16, [.c (.box 2 53)], .light⟩]) (st' := [none, some (.box true 49 ([.pv (.bool false), .emp, .pv (.int .i64 0), .pv (.bool false)] ++ (bs (e_T42 (arr (arr 0 []) [(arr 0 [0, 0, 0, 0, 0, 0, 0]), (arr 0 [0, 0, 0, 0, 0, 0, 0]), (arr 0 [0, 0, 0, 0, 0, 0, 0]), (arr 0 [0, 0, 0, 0, 0, 0, 0]), (arr 0 [0, 0, 0, 0, 0, 0, 0]), (arr 0 [0, 0, 0, 0, 0, 0, 0]), (arr 0 [0, 0, 0, 0, 0, 0, 0])])) ++ [.emp, .emp]))), some (.box true 49 ([.pv (.bool x3.2.1.N.None), .pv (.sl (List.map e_itv_Itv x3.2.1.N.I)), .pv (.int .i64 x3.2.1.N.Z.N), .pv (.bool x3.2.1.N.Z.None)] ++ (bs (e_T42 x3.2.1.N.Z.D) ++ [.any, .any]))), some (.row true true 53 2 (List.map e_itv_Itv v5)), some (.row true true 85 1 (List.map e_rule_Set v6))]) (wm [0, 1, 0, 4, 15, 0, 32, 0, 255, 127, 1023, 2047, 4095]) 8 rfl (by kernel_rfl) (by kernel_rfl) (by kernel_rfl) (by kernel_rfl) (by kernel_rfl) (gi0 rfl) (oE tbok [] 1 (by kernel_rfl) (oN 1 (by kernel_rfl) (oL [] rfl (by kernel_rfl) (fl_slice (List.map e_rule_Set [0]) rfl sl47 rfl rfl rfl rfl rfl rfl rfl) (oE tbok [] 2 (by kernel_rfl) (oN 4 (by kernel_rfl) trivial))))) rfl rfl rfl u47 te85 (by decide) rfl rfl rfl (.sl _) (ys := List.map e_rule_Set [0]) rfl (app_len k7) rfl rfl (app_set (e := e_rule_Set) k7 (by rfl)) ?_
      refine d_store (cs' := ([.pv (.bool x3.2.1.N.None), .pv (.sl (List.map e_itv_Itv x3.2.1.N.I)), .pv (.int .i64 x3.2.1.N.Z.N), .pv (.bool x3.2.1.N.Z.None)] ++ (bs (e_T42 x3.2.1.N.Z.D) ++ [.row 3, .any]))) (wm [0, 1, 0, 4, 15, 0, 32, 0, 255, 127, 1023, 2047, 4095]) 10 rfl (by kernel_rfl) (by kernel_rfl) (by kernel_rfl) (by kernel_rfl) (by kernel_rfl) (gi0 rfl) (oN 1 (by kernel_rfl) (oE tbok [] 1 (by kernel_rfl) (oN 8 (by kernel_rfl) trivial))) rfl rfl ty40 rfl rfl rfl rfl rfl rfl (by kernel_rfl) (SetAt.eq (.s (.s .z))) ?_
      refine dl (t := 26) 11 [.c (.box 2 54)] rfl ?_
      obtain ⟨v7, k8, h⟩ := bindE h
      refine d_store (cs' := ([.pv (.bool v7.N.None), .pv (.sl (List.map e_itv_Itv v7.N.I)), .pv (.int .i64 v7.N.Z.N), .pv (.bool v7.N.Z.None)] ++ (bs (e_T42 v7.N.Z.D) ++ [.row 3, .row 4]))) (wm [0, 1, 0, 4, 15, 0, 32, 0, 255, 127, 1023, 2047, 4095]) 12 rfl (by kernel_rfl) (by kernel_rfl) (by kernel_rfl) (by kernel_rfl) (by kernel_rfl) (gi0 rfl) (oE tbok [] 1 (by kernel_rfl) (oN 11 (by kernel_rfl) trivial)) rfl rfl ty47 rfl rfl rfl rfl rfl rfl (by rw [← retE k8]; kernel_rfl) (SetAt.eq (.s (.s .z))) ?_
      refine d_endS (env2 := [(4, [.c (.box 1 0)]), (5, [.c (.box 2 0)]), (13, [.c (.pv (.int .i64 (a0.Chans.length : Int)))]), (14, [.c (.pv (.int .i64 x3.1))])]) (wm [0, 1, 0, 4, 15, 0, 32, 0, 255, 127, 1023, 2047, 4095]) (by kernel_rfl) (by kernel_rfl) (by kernel_rfl) (oN 13 (by kernel_rfl) trivial) (sub_cons rfl (sub_cons rfl (sub_cons rfl (sub_cons rfl sub_nil)))) (wB wT) ?_
      refine bN ?_
      refine then_ ?_
      refine region_ ?_
      refine R tbok 2 [14, 4, 5, 13] [(14, [.c (.pv (.int .i64 (IntKind.i64.wrap (x3.1 + 1))))]), (4, [.c (.box 1 0)]), (5, [.c (.box 2 0)]), (13, [.c (.pv (.int .i64 (a0.Chans.length : Int)))])] (by kernel_rfl) ?_
      refine ops_nil ?_
      obtain rfl := retE h
      refine lN ?_
      refine w_sub (env' := [(4, [.c (.box 1 0)]), (5, [.c (.box 2 0)]), (13, [.c (.pv (.int .i64 (a0.Chans.length : Int)))]), (14, [.c (.pv (.int .i64 (IntKind.i64.wrap (x3.1 + 1))))])]) (sub_cons rfl (sub_cons rfl (sub_cons rfl (sub_cons rfl sub_nil)))) ?_
      exact wkE (by kernel_rfl) (by kernel_rfl)
    · have h := iteF h k3
      refine exit_ ?_
      refine tX ?_
      obtain rfl := retE h
      refine lX ?_
      refine w_sub (env' := [(4, [.c (.box 1 0)]), (5, [.c (.box 2 0)])]) (sub_cons rfl (sub_cons rfl sub_nil)) ?_
      exact wkE (by kernel_rfl) (by kernel_rfl)
  · cases h
  · have h := elimR h
    refine then_ ?_
    refine seq_ ?_
    refine region_ ?_
    refine R tbok 1 [28, 4] [(28, [.agg ([.pv (.bool j3.1.N.None), .pv (.sl (List.map e_itv_Itv j3.1.N.I)), .pv (.int .i64 j3.1.N.Z.N), .pv (.bool j3.1.N.Z.None)] ++ (bs (e_T42 j3.1.N.Z.D) ++ [.row 3, .row 4]))]), (4, [.c (.box 1 0)])] (by kernel_rfl) ?_
    refine S rfl rfl rfl ty49 (by decide) rfl rfl rfl rfl rfl (.all rfl) (.s .z) ?_
    refine ops_nil ?_
    refine then_ ?_
    refine ret_ ?_
    obtain rfl := retE h
    refine rwr (rw_ (.cellA (ys := ([.pv (.bool j3.1.N.None), .pv (.sl (List.map e_itv_Itv j3.1.N.I)), .pv (.int .i64 j3.1.N.Z.N), .pv (.bool j3.1.N.Z.None)] ++ (bs (e_T42 j3.1.N.Z.D) ++ [.row 3, .row 4]))) ty49 rfl rfl (by kernel_rfl) (by kernel_rfl) .nil) ?_)
    refine (w_freeze (b := 3) (env' := [(0, [.agg ([.pv (.bool j3.1.N.None), .pv (.sl (List.map e_itv_Itv j3.1.N.I)), .pv (.int .i64 j3.1.N.Z.N), .pv (.bool j3.1.N.Z.None)] ++ (bs (e_T42 j3.1.N.Z.D) ++ [.pv (.sl (List.map e_itv_Itv j3.2.1)), .row 4]))])]) (st' := [none, some (.box true 49 ([.pv (.bool j3.1.N.None), .pv (.sl (List.map e_itv_Itv j3.1.N.I)), .pv (.int .i64 j3.1.N.Z.N), .pv (.bool j3.1.N.Z.None)] ++ (bs (e_T42 j3.1.N.Z.D) ++ [.pv (.sl (List.map e_itv_Itv j3.2.1)), .row 4]))), some (.box true 49 ([.pv (.bool j3.1.N.None), .pv (.sl (List.map e_itv_Itv j3.1.N.I)), .pv (.int .i64 j3.1.N.Z.N), .pv (.bool j3.1.N.Z.None)] ++ (bs (e_T42 j3.1.N.Z.D) ++ [.pv (.sl (List.map e_itv_Itv j3.2.1)), .row 4]))), none, some (.row true true 85 1 (List.map e_rule_Set j3.2.2))]) rfl rfl rfl ?_)
    refine (w_freeze (b := 4) (env' := [(0, [.agg (bs (e_trans_State (trans_State.mk j3.1.N j3.2.1 j3.2.2)))])]) (st' := [none, some (.box true 49 (bs (e_trans_State (trans_State.mk j3.1.N j3.2.1 j3.2.2)))), some (.box true 49 (bs (e_trans_State (trans_State.mk j3.1.N j3.2.1 j3.2.2)))), none, none]) rfl rfl rfl ?_)
    refine w_none 1 (.s .z) ?_
    refine w_none 2 (.s (.s .z)) ?_
    refine w_cut 0 rfl rfl rfl rfl ?_
    exact wkE (by kernel_rfl) (by kernel_rfl)

theorem flow_Out_meets {a0 : flow_Graph} {a1 : Int} {r : (List Int)} (h : flow_Out a0 a1 = some r) : MeetsV Try.prog GG 24 [.agg [.pv (.int .i64 a0.Nodes), .pv (.sl (List.map e_flow_Edge a0.Edges)), .pv (.sl (List.map e_i64 a0.Heads))], .c (.pv (.int .i64 a1))] [.c (.pv (.sl (List.map e_i64 r)))] := by
  refine MeetsS.toV (meetsW_of (st0 := []) (N := 26) r_flow_Out o_flow_Out r Try.func24 rfl rfl rfl (by dsimp only [argEnv]) rfl ?_) rfl
  unfold flow_Out at h
  refine seq_ ?_
  refine region_ ?_
  refine B rfl rfl (bir_box rfl rfl rfl) rfl rfl .z ?_
  refine R tbok 1 [4, 2, 1] [(4, [.c (.emp)]), (2, [.c (.box 0 0)]), (1, [.c (.pv (.int .i64 a1))])] (by kernel_rfl) ?_
  refine ops_nil ?_
  refine then_ ?_
  refine seq_ ?_
  refine region_ ?_
  refine R tbok 1 [5, 4, 2, 1] [(5, [.c (.emp)]), (4, [.c (.emp)]), (2, [.c (.box 0 0)]), (1, [.c (.pv (.int .i64 a1))])] (by kernel_rfl) ?_
  refine ops_nil ?_
  refine then_ ?_
  refine seq_ ?_
  refine seq_ ?_
  refine region_ ?_
  refine R tbok 2 [9, 5, 4, 1] [(9, [.c (.pv (.sl (List.map e_flow_Edge a0.Edges)))]), (5, [.c (.emp)]), (4, [.c (.emp)]), (1, [.c (.pv (.int .i64 a1))])] (by kernel_rfl) ?_
  refine L rfl rfl (len_sl (e := e_flow_Edge) rfl u32 rfl) rfl ?_
  refine R tbok 1 [11, 10, 9, 5, 4, 1] [(11, [.c (.pv (.int .i64 0))]), (10, [.c (.pv (.int .i64 (a0.Edges.length : Int)))]), (9, [.c (.pv (.sl (List.map e_flow_Edge a0.Edges)))]), (5, [.c (.emp)]), (4, [.c (.emp)]), (1, [.c (.pv (.int .i64 a1))])] (by kernel_rfl) ?_
  refine ops_nil ?_
  refine then_ ?_
  refine CodeT.weak (w_lift 5 3 1 rfl (.s .z) (Weak.refl _)) ?_
  refine lp_ (Qr := RW Try.prog GG Try.f24 0 r_flow_Out o_flow_Out) (flow_Out_l2 a0 a1) (fun (x2 : (Int × (List Int))) => (⟨26, 0, [(1, [.c (.pv (.int .i64 a1))]), (5, [.c (.row 1)]), (9, [.c (.pv (.sl (List.map e_flow_Edge a0.Edges)))]), (10, [.c (.pv (.int .i64 (a0.Edges.length : Int)))]), (11, [.c (.pv (.int .i64 x2.1))])], [none, some (.row true true 3 1 (List.map e_i64 x2.2))]⟩ : Sx)) (fun (j2 : (List Int)) => (⟨26, 0, [(5, [.c (.row 1)])], [none, some (.row true true 3 1 (List.map e_i64 j2))]⟩ : Sx)) (0, []) RW.only h wT ?_ (fun x2 o h => ?_) (fun r h s' hs => ?_) (fun j2 h => ?_)
  · refine w_sub (env' := [(1, [.c (.pv (.int .i64 a1))]), (5, [.c (.row 1)]), (9, [.c (.pv (.sl (List.map e_flow_Edge a0.Edges)))]), (10, [.c (.pv (.int .i64 (a0.Edges.length : Int)))]), (11, [.c (.pv (.int .i64 0))])]) (sub_cons rfl (sub_cons rfl (sub_cons rfl (sub_cons rfl (sub_cons rfl sub_nil))))) ?_
    refine w_none 0 .z ?_
    refine w_ch 1 rfl (.s .z) ?_
    exact wkE (by kernel_rfl) (by kernel_rfl)
  · unfold flow_Out_l2 at h
    refine seq_ ?_
    refine region_ ?_
    refine R tbok 1 [12, 1, 5, 9, 10, 11] [(12, [.c (.pv (.bool (decide (x2.1 < (a0.Edges.length : Int)))))]), (1, [.c (.pv (.int .i64 a1))]), (5, [.c (.row 1)]), (9, [.c (.pv (.sl (List.map e_flow_Edge a0.Edges)))]), (10, [.c (.pv (.int .i64 (a0.Edges.length : Int)))]), (11, [.c (.pv (.int .i64 x2.1))])] (by kernel_rfl) ?_
    refine ops_nil ?_
    refine then_ ?_
    refine seq_ ?_
    refine cond_ (b := (decide (x2.1 < (a0.Edges.length : Int)))) rfl (fun k1 => ?_) (fun k1 => ?_)
    · have h := iteT h k1
      refine skip_ ?_
      refine then_ ?_
      refine seq_ ?_
      refine jn_ (fun (j3 : (List Int)) => (⟨26, 0, [(1, [.c (.pv (.int .i64 a1))]), (5, [.c (.row 1)]), (9, [.c (.pv (.sl (List.map e_flow_Edge a0.Edges)))]), (10, [.c (.pv (.int .i64 (a0.Edges.length : Int)))]), (11, [.c (.pv (.int .i64 x2.1))])], [none, some (.row true true 3 1 (List.map e_i64 j3))]⟩ : Sx)) h wT (fun o h => ?_) (fun j3 h => ?_)
      · refine block_ ?_
        refine seq_ ?_
        refine region_ ?_
        refine R tbok 1 [13, 1, 5, 9, 10, 11] [(13, [.c (.pv (.int .i64 x2.1))]), (1, [.c (.pv (.int .i64 a1))]), (5, [.c (.row 1)]), (9, [.c (.pv (.sl (List.map e_flow_Edge a0.Edges)))]), (10, [.c (.pv (.int .i64 (a0.Edges.length : Int)))]), (11, [.c (.pv (.int .i64 x2.1))])] (by kernel_rfl) ?_
        obtain ⟨v1, k2, h⟩ := bindE h
        refine L rfl rfl (ia_sl (e := e_flow_Edge) (y := v1) rfl u32 ty31 rfl rfl k2 rfl) rfl ?_
        refine R tbok 1 [15, 13, 1, 5, 9, 10, 11] [(15, [.agg (bs (e_flow_Edge v1))]), (13, [.c (.pv (.int .i64 x2.1))]), (1, [.c (.pv (.int .i64 a1))]), (5, [.c (.row 1)]), (9, [.c (.pv (.sl (List.map e_flow_Edge a0.Edges)))]), (10, [.c (.pv (.int .i64 (a0.Edges.length : Int)))]), (11, [.c (.pv (.int .i64 x2.1))])] (by kernel_rfl) ?_
        refine B rfl rfl (bir_alloc rfl z31 rfl rfl) rfl rfl (.s (.s .z)) ?_
        refine R tbok 1 [6, 7, 15, 1, 5, 9, 10, 11] [(6, [.c (.pv (.int .i64 x2.1))]), (7, [.c (.box 2 0)]), (15, [.agg (bs (e_flow_Edge v1))]), (1, [.c (.pv (.int .i64 a1))]), (5, [.c (.row 1)]), (9, [.c (.pv (.sl (List.map e_flow_Edge a0.Edges)))]), (10, [.c (.pv (.int .i64 (a0.Edges.length : Int)))]), (11, [.c (.pv (.int .i64 x2.1))])] (by kernel_rfl) ?_
        refine S rfl rfl rfl ty31 (by decide) rfl rfl rfl rfl rfl (.all rfl) (.s (.s .z)) ?_
        refine ops_nil ?_
        refine then_ ?_
        refine seq_ ?_
        refine region_ ?_
        refine R tbok 4 [19, 6, 1, 5, 9, 10, 11] [(19, [.c (.pv (.bool (v1.From == a1)))]), (6, [.c (.pv (.int .i64 x2.1))]), (1, [.c (.pv (.int .i64 a1))]), (5, [.c (.row 1)]), (9, [.c (.pv (.sl (List.map e_flow_Edge a0.Edges)))]), (10, [.c (.pv (.int .i64 (a0.Edges.length : Int)))]), (11, [.c (.pv (.int .i64 x2.1))])] (by kernel_rfl) ?_
        refine ops_nil ?_
        refine then_ ?_
        refine cond_ (b := (v1.From == a1)) rfl (fun k3 => ?_) (fun k3 => ?_)
        · have h := iteT h k3
          refine region_ ?_
          refine R tbok 2 [21, 20, 1, 5, 9, 10, 11] [(21, [.c (.pv (.int .i64 x2.1))]), (20, [.c (.row 1)]), (1, [.c (.pv (.int .i64 a1))]), (5, [.c (.row 1)]), (9, [.c (.pv (.sl (List.map e_flow_Edge a0.Edges)))]), (10, [.c (.pv (.int .i64 (a0.Edges.length : Int)))]), (11, [.c (.pv (.int .i64 x2.1))])] (by kernel_rfl) ?_
          refine C rfl rfl (fl_slice (List.map e_i64 [x2.1]) rfl sl33 rfl rfl rfl rfl rfl rfl rfl) rfl ?_
          obtain ⟨v2, k4, h⟩ := bindE h
          refine app_ (e := e_i64) (M := [x2.1]) (env' := [(22, [.c (.pv (.sl (List.map e_i64 [x2.1])))]), (21, [.c (.pv (.int .i64 x2.1))]), (20, [.c (.any)]), (1, [.c (.pv (.int .i64 a1))]), (5, [.c (.any)]), (9, [.c (.pv (.sl (List.map e_flow_Edge a0.Edges)))]), (10, [.c (.pv (.int .i64 (a0.Edges.length : Int)))]), (11, [.c (.pv (.int .i64 x2.1))])]) (st' := [none, some (.row true true 3 1 (List.map e_i64 v2)), some (.box true 31 (bs (e_flow_Edge v1)))]) rfl rfl rfl rfl u33 te3 (by decide) rfl rfl rfl (.sl _) (fun _ => rfl) k4 rfl rfl ?_
          refine R tbok 1 [5, 1, 9, 10, 11] [(5, [.c (.row 1)]), (1, [.c (.pv (.int .i64 a1))]), (9, [.c (.pv (.sl (List.map e_flow_Edge a0.Edges)))]), (10, [.c (.pv (.int .i64 (a0.Edges.length : Int)))]), (11, [.c (.pv (.int .i64 x2.1))])] (by kernel_rfl) ?_
          refine ops_nil ?_
          refine bN ?_
          obtain rfl := retE h
          refine mN ?_
          refine w_sub (env' := [(1, [.c (.pv (.int .i64 a1))]), (5, [.c (.row 1)]), (9, [.c (.pv (.sl (List.map e_flow_Edge a0.Edges)))]), (10, [.c (.pv (.int .i64 (a0.Edges.length : Int)))]), (11, [.c (.pv (.int .i64 x2.1))])]) (sub_cons rfl (sub_cons rfl (sub_cons rfl (sub_cons rfl (sub_cons rfl sub_nil))))) ?_
          refine w_cut 2 rfl rfl rfl rfl ?_
          exact wkE (by kernel_rfl) (by kernel_rfl)
        · have h := iteF h k3
          refine skip_ ?_
          refine bN ?_
          obtain rfl := retE h
          refine mN ?_
          refine w_sub (env' := [(1, [.c (.pv (.int .i64 a1))]), (5, [.c (.row 1)]), (9, [.c (.pv (.sl (List.map e_flow_Edge a0.Edges)))]), (10, [.c (.pv (.int .i64 (a0.Edges.length : Int)))]), (11, [.c (.pv (.int .i64 x2.1))])]) (sub_cons rfl (sub_cons rfl (sub_cons rfl (sub_cons rfl (sub_cons rfl sub_nil))))) ?_
          refine w_cut 2 rfl rfl rfl rfl ?_
          exact wkE (by kernel_rfl) (by kernel_rfl)
      · refine then_ ?_
        refine region_ ?_
        refine R tbok 2 [11, 1, 5, 9, 10] [(11, [.c (.pv (.int .i64 (IntKind.i64.wrap (x2.1 + 1))))]), (1, [.c (.pv (.int .i64 a1))]), (5, [.c (.row 1)]), (9, [.c (.pv (.sl (List.map e_flow_Edge a0.Edges)))]), (10, [.c (.pv (.int .i64 (a0.Edges.length : Int)))])] (by kernel_rfl) ?_
        refine ops_nil ?_
        obtain rfl := retE h
        refine lN ?_
        refine w_sub (env' := [(1, [.c (.pv (.int .i64 a1))]), (5, [.c (.row 1)]), (9, [.c (.pv (.sl (List.map e_flow_Edge a0.Edges)))]), (10, [.c (.pv (.int .i64 (a0.Edges.length : Int)))]), (11, [.c (.pv (.int .i64 (IntKind.i64.wrap (x2.1 + 1))))])]) (sub_cons rfl (sub_cons rfl (sub_cons rfl (sub_cons rfl (sub_cons rfl sub_nil))))) ?_
        exact wkE (by kernel_rfl) (by kernel_rfl)
    · have h := iteF h k1
      refine exit_ ?_
      refine tX ?_
      obtain rfl := retE h
      refine lX ?_
      refine w_sub (env' := [(5, [.c (.row 1)])]) (sub_cons rfl sub_nil) ?_
      exact wkE (by kernel_rfl) (by kernel_rfl)
  · cases h
  · have h := elimR h
    refine then_ ?_
    refine seq_ ?_
    refine region_ ?_
    refine R tbok 2 [4] [(4, [.c (.row 1)])] (by kernel_rfl) ?_
    refine ops_nil ?_
    refine then_ ?_
    refine ret_ ?_
    obtain rfl := retE h
    refine rwr (rw_ (.tmp rfl .nil) ?_)
    refine (w_freeze (b := 1) (env' := [(0, [.c (.pv (.sl (List.map e_i64 j2)))])]) (st' := [none, none]) rfl rfl rfl ?_)
    refine w_cut 0 rfl rfl rfl rfl ?_
    exact wkE (by kernel_rfl) (by kernel_rfl)

theorem itv_Itv__meets {a0 : (List itv_Itv)} {r : (List itv_Itv)} (h : itv_Itv_ a0 = some r) : MeetsS Try.prog GG 39 [.c (.pv (.sl (List.map e_itv_Itv a0)))] [] [.c (.row 0)] [some (.row true true 53 2 (List.map e_itv_Itv r))] := by
  refine meetsW_of (N := 8) r_itv_Itv_ o_itv_Itv_ r Try.func39 rfl rfl rfl (by dsimp only [argEnv]) rfl ?_
  unfold itv_Itv_ at h
  refine seq_ ?_
  refine region_ ?_
  refine R tbok 1 [2, 0] [(2, [.c (.emp)]), (0, [.c (.pv (.sl (List.map e_itv_Itv a0)))])] (by kernel_rfl) ?_
  refine ops_nil ?_
  refine then_ ?_
  refine seq_ ?_
  refine seq_ ?_
  refine region_ ?_
  refine R tbok 1 [3, 2, 0] [(3, [.c (.pv (.sl (List.map e_itv_Itv a0)))]), (2, [.c (.emp)]), (0, [.c (.pv (.sl (List.map e_itv_Itv a0)))])] (by kernel_rfl) ?_
  refine opsNil rfl rfl rfl rfl u40 rfl (fun q8 wq8 => ?_)
  refine ops_nil ?_
  refine then_ ?_
  refine cond_ (b := q8) rfl (fun k1 => ?_) (fun k1 => ?_)
  · have e := List.map_eq_nil_iff.1 (wq8 k1)
    have h : (some []) = some r := by subst e; simpa [app] using h
    refine seq_ ?_
    refine region_ ?_
    refine R tbok 1 [2, 0] [(2, [.c (.emp)]), (0, [.c (.pv (.sl (List.map e_itv_Itv a0)))])] (by kernel_rfl) ?_
    refine ops_nil ?_
    refine then_ ?_
    refine ret_ ?_
    obtain rfl := retE h
    refine tR (rwr (rw_ (.tmp rfl .nil) ?_))
    refine w_lift 0 53 2 rfl .z ?_
    refine w_sub (env' := [(0, [.c (.row 0)])]) (sub_cons rfl sub_nil) ?_
    refine w_ch 0 rfl .z ?_
    exact wkE (by kernel_rfl) (by kernel_rfl)
  · refine skip_ ?_
    refine then_ ?_
    refine seq_ ?_
    refine region_ ?_
    refine B rfl rfl (bir_slice (List.map e_itv_Itv []) rfl sl40 rfl rfl rfl rfl rfl rfl rfl rfl) rfl rfl .z ?_
    refine R tbok 1 [6, 5, 2] [(6, [.c (.pv (.sl (List.map e_itv_Itv a0)))]), (5, [.c (.row 0)]), (2, [.c (.emp)])] (by kernel_rfl) ?_
    obtain ⟨v1, k2, h⟩ := bindE h
    refine app_ (e := e_itv_Itv) (M := a0) (env' := [(6, [.c (.pv (.sl (List.map e_itv_Itv a0)))]), (5, [.c (.any)]), (2, [.c (.emp)])]) (st' := [some (.row true true 53 2 (List.map e_itv_Itv v1))]) rfl rfl rfl rfl u40 te53 (by decide) rfl rfl rfl (.sl _) (fun _ => rfl) k2 rfl rfl ?_
    refine R tbok 1 [2] [(2, [.c (.row 0)])] (by kernel_rfl) ?_
    refine ops_nil ?_
    refine then_ ?_
    refine ret_ ?_
    obtain rfl := retE h
    refine rwr (rw_ (.tmp rfl .nil) ?_)
    exact wkE (by kernel_rfl) (by kernel_rfl)

theorem rule_Set__meets {a0 : (List Int)} {r : (List Int)} (h : rule_Set_ a0 = some r) : MeetsS Try.prog GG 40 [.c (.pv (.sl (List.map e_rule_Set a0)))] [] [.c (.row 0)] [some (.row true true 85 1 (List.map e_rule_Set r))] := by
  refine meetsW_of (N := 8) r_rule_Set_ o_rule_Set_ r Try.func40 rfl rfl rfl (by dsimp only [argEnv]) rfl ?_
  unfold rule_Set_ at h
  refine seq_ ?_
  refine region_ ?_
  refine R tbok 1 [2, 0] [(2, [.c (.emp)]), (0, [.c (.pv (.sl (List.map e_rule_Set a0)))])] (by kernel_rfl) ?_
  refine ops_nil ?_
  refine then_ ?_
  refine seq_ ?_
  refine seq_ ?_
  refine region_ ?_
  refine R tbok 1 [3, 2, 0] [(3, [.c (.pv (.sl (List.map e_rule_Set a0)))]), (2, [.c (.emp)]), (0, [.c (.pv (.sl (List.map e_rule_Set a0)))])] (by kernel_rfl) ?_
  refine opsNil rfl rfl rfl rfl u47 rfl (fun q8 wq8 => ?_)
  refine ops_nil ?_
  refine then_ ?_
  refine cond_ (b := q8) rfl (fun k1 => ?_) (fun k1 => ?_)
  · have e := List.map_eq_nil_iff.1 (wq8 k1)
    have h : (some []) = some r := by subst e; simpa [app] using h
    refine seq_ ?_
    refine region_ ?_
    refine R tbok 1 [2, 0] [(2, [.c (.emp)]), (0, [.c (.pv (.sl (List.map e_rule_Set a0)))])] (by kernel_rfl) ?_
    refine ops_nil ?_
    refine then_ ?_
    refine ret_ ?_
    obtain rfl := retE h
    refine tR (rwr (rw_ (.tmp rfl .nil) ?_))
    refine w_lift 0 85 1 rfl .z ?_
    refine w_sub (env' := [(0, [.c (.row 0)])]) (sub_cons rfl sub_nil) ?_
    refine w_ch 0 rfl .z ?_
    exact wkE (by kernel_rfl) (by kernel_rfl)
  · refine skip_ ?_
    refine then_ ?_
    refine seq_ ?_
    refine region_ ?_
    refine B rfl rfl (bir_slice (List.map e_rule_Set []) rfl sl47 rfl rfl rfl rfl rfl rfl rfl rfl) rfl rfl .z ?_
    refine R tbok 1 [6, 5, 2] [(6, [.c (.pv (.sl (List.map e_rule_Set a0)))]), (5, [.c (.row 0)]), (2, [.c (.emp)])] (by kernel_rfl) ?_
    obtain ⟨v1, k2, h⟩ := bindE h
    refine app_ (e := e_rule_Set) (M := a0) (env' := [(6, [.c (.pv (.sl (List.map e_rule_Set a0)))]), (5, [.c (.any)]), (2, [.c (.emp)])]) (st' := [some (.row true true 85 1 (List.map e_rule_Set v1))]) rfl rfl rfl rfl u47 te85 (by decide) rfl rfl rfl (.sl _) (fun _ => rfl) k2 rfl rfl ?_
    refine R tbok 1 [2] [(2, [.c (.row 0)])] (by kernel_rfl) ?_
    refine ops_nil ?_
    refine then_ ?_
    refine ret_ ?_
    obtain rfl := retE h
    refine rwr (rw_ (.tmp rfl .nil) ?_)
    exact wkE (by kernel_rfl) (by kernel_rfl)

theorem trans_copied_meets {a0 : trans_State} {r : trans_State} (h : trans_copied a0 = some r) : MeetsS Try.prog GG 25 [.agg (bs (e_trans_State a0))] [] [.agg ([.pv (.bool r.N.None), .pv (.sl (List.map e_itv_Itv r.N.I)), .pv (.int .i64 r.N.Z.N), .pv (.bool r.N.Z.None)] ++ (bs (e_T42 r.N.Z.D) ++ [.row 0, .row 1]))] [some (.row true true 53 2 (List.map e_itv_Itv r.Counts)), some (.row true true 85 1 (List.map e_rule_Set r.Rules))] := by
  refine meetsW_of (N := 12) r_trans_copied o_trans_copied r Try.func25 rfl rfl rfl (by dsimp only [argEnv]) rfl ?_
  unfold trans_copied at h
  refine seq_ ?_
  refine region_ ?_
  refine B rfl rfl (bir_box rfl rfl rfl) rfl rfl .z ?_
  refine B rfl rfl (bir_alloc rfl z49 rfl rfl) rfl rfl (.s .z) ?_
  refine ops_nil ?_
  refine then_ ?_
  refine seq_ ?_
  refine drawn_ mixed ?_
  refine dl (t := 3) 0 [.c (.box 0 0)] rfl ?_
  refine dl (t := 4) 1 [.agg (bs (e_num_Num a0.N))] rfl ?_
  refine dl (t := 5) 2 [.c (.box 0 53)] rfl ?_
  refine dl (t := 6) 3 [.c (.pv (.sl (List.map e_itv_Itv a0.Counts)))] rfl ?_
  refine dl (t := 8) 5 [.c (.box 0 54)] rfl ?_
  refine dl (t := 9) 6 [.c (.pv (.sl (List.map e_rule_Set a0.Rules)))] rfl ?_
  obtain ⟨v4, k4, h⟩ := bindE h
  refine d_callS (env1 := [(2, [.c (.box 1 0)]), (1, [.c (.box 0 0)]), (0, [.agg (bs (e_trans_State a0))])]) (T1 := [⟨6, some 9, [.c (.pv (.sl (List.map e_rule_Set a0.Rules)))], .light⟩, ⟨5, some 8, [.c (.box 0 54)], .light⟩, ⟨3, some 6, [.c (.pv (.sl (List.map e_itv_Itv a0.Counts)))], .light⟩, ⟨2, some 5, [.c (.box 0 53)], .light⟩, ⟨1, some 4, [.agg (bs (e_num_Num a0.N))], .light⟩, ⟨0, some 3, [.c (.box 0 0)], .light⟩]) (resX := [.c (.row 2)]) (st' := [some (.box true 49 (bs (e_trans_State a0))), some (.box true 49 ([.pv (.bool false), .emp, .pv (.int .i64 0), .pv (.bool false)] ++ (bs (e_T42 (arr (arr 0 []) [(arr 0 [0, 0, 0, 0, 0, 0, 0]), (arr 0 [0, 0, 0, 0, 0, 0, 0]), (arr 0 [0, 0, 0, 0, 0, 0, 0]), (arr 0 [0, 0, 0, 0, 0, 0, 0]), (arr 0 [0, 0, 0, 0, 0, 0, 0]), (arr 0 [0, 0, 0, 0, 0, 0, 0]), (arr 0 [0, 0, 0, 0, 0, 0, 0])])) ++ [.emp, .emp]))), some (.row true true 53 2 (List.map e_itv_Itv v4))]) (wm [0, 1, 0, 4, 12, 0, 32, 124, 255, 511]) 4 rfl (by kernel_rfl) (by kernel_rfl) (by kernel_rfl) (by kernel_rfl) (by kernel_rfl) (gi0 rfl) (oE tbok [] 6 (by kernel_rfl) trivial) [] [] rfl rfl rfl Try.call39 rfl rfl (by kernel_rfl) (by kernel_rfl) (itv_Itv__meets k4) (by kernel_rfl) (by kernel_rfl) (by kernel_rfl) (by kernel_rfl) ?_
  obtain ⟨v6, k6, h⟩ := bindE h
  refine d_callS (env1 := [(2, [.c (.box 1 0)]), (1, [.c (.box 0 0)]), (0, [.agg (bs (e_trans_State a0))])]) (T1 := [⟨4, some 7, [.c (.row 2)], .heavy⟩, ⟨6, some 9, [.c (.pv (.sl (List.map e_rule_Set a0.Rules)))], .light⟩, ⟨5, some 8, [.c (.box 0 54)], .light⟩, ⟨3, some 6, [.c (.pv (.sl (List.map e_itv_Itv a0.Counts)))], .light⟩, ⟨2, some 5, [.c (.box 0 53)], .light⟩, ⟨1, some 4, [.agg (bs (e_num_Num a0.N))], .light⟩, ⟨0, some 3, [.c (.box 0 0)], .light⟩]) (resX := [.c (.row 3)]) (st' := [some (.box true 49 (bs (e_trans_State a0))), some (.box true 49 ([.pv (.bool false), .emp, .pv (.int .i64 0), .pv (.bool false)] ++ (bs (e_T42 (arr (arr 0 []) [(arr 0 [0, 0, 0, 0, 0, 0, 0]), (arr 0 [0, 0, 0, 0, 0, 0, 0]), (arr 0 [0, 0, 0, 0, 0, 0, 0]), (arr 0 [0, 0, 0, 0, 0, 0, 0]), (arr 0 [0, 0, 0, 0, 0, 0, 0]), (arr 0 [0, 0, 0, 0, 0, 0, 0]), (arr 0 [0, 0, 0, 0, 0, 0, 0])])) ++ [.emp, .emp]))), some (.row true true 53 2 (List.map e_itv_Itv v4)), some (.row true true 85 1 (List.map e_rule_Set v6))]) (wm [0, 1, 0, 4, 12, 0, 32, 124, 255, 511]) 7 rfl (by kernel_rfl) (by kernel_rfl) (by kernel_rfl) (by kernel_rfl) (by kernel_rfl) (gi0 rfl) (oN 1 (by kernel_rfl) (oE tbok [] 2 (by kernel_rfl) (oN 2 (by kernel_rfl) (oE tbok [] 2 (by kernel_rfl) trivial)))) [] [] rfl rfl rfl Try.call40 rfl rfl (by kernel_rfl) (by kernel_rfl) (rule_Set__meets k6) (by kernel_rfl) (by kernel_rfl) (by kernel_rfl) (by kernel_rfl) ?_
  refine dl (t := 11) 8 [.agg ([.pv (.bool a0.N.None), .pv (.sl (List.map e_itv_Itv a0.N.I)), .pv (.int .i64 a0.N.Z.N), .pv (.bool a0.N.Z.None)] ++ (bs (e_T42 a0.N.Z.D) ++ [.row 2, .row 3]))] rfl ?_
  refine d_store (wm [0, 1, 0, 4, 12, 0, 32, 124, 255, 511]) 9 rfl (by kernel_rfl) (by kernel_rfl) (by kernel_rfl) (by kernel_rfl) (by kernel_rfl) (gi0 rfl) (oL [] rfl (by kernel_rfl) (fl_lt (lt_build (cs := ([.pv (.bool a0.N.None), .pv (.sl (List.map e_itv_Itv a0.N.I)), .pv (.int .i64 a0.N.Z.N), .pv (.bool a0.N.Z.None)] ++ (bs (e_T42 a0.N.Z.D) ++ [.row 2, .row 3]))) rfl st49 rfl (by kernel_rfl))) (oN 6 (by kernel_rfl) (oE tbok [] 2 (by kernel_rfl) trivial))) rfl rfl ty49 rfl rfl rfl rfl rfl rfl (putE 55 (.all rfl) rfl (by decide)) (SetAt.eq (.s .z)) ?_
  refine d_endS (env2 := [(2, [.c (.box 1 0)])]) (wm [0, 1, 0, 4, 12, 0, 32, 124, 255, 511]) (by kernel_rfl) (by kernel_rfl) (by kernel_rfl) (oN 10 (by kernel_rfl) trivial) (sub_cons rfl sub_nil) wT ?_
  refine then_ ?_
  refine ret_ ?_
  obtain rfl := retE h
  refine rwr (rw_ (.cellA (ys := ([.pv (.bool a0.N.None), .pv (.sl (List.map e_itv_Itv a0.N.I)), .pv (.int .i64 a0.N.Z.N), .pv (.bool a0.N.Z.None)] ++ (bs (e_T42 a0.N.Z.D) ++ [.row 2, .row 3]))) ty49 rfl rfl (by kernel_rfl) (by kernel_rfl) .nil) ?_)
  refine w_none 0 .z ?_
  refine w_none 1 (.s .z) ?_
  refine w_mv (env' := [(0, [.agg ([.pv (.bool a0.N.None), .pv (.sl (List.map e_itv_Itv a0.N.I)), .pv (.int .i64 a0.N.Z.N), .pv (.bool a0.N.Z.None)] ++ (bs (e_T42 a0.N.Z.D) ++ [.row 0, .row 3]))])]) (st' := [some (.row true true 53 2 (List.map e_itv_Itv v4)), none, none, some (.row true true 85 1 (List.map e_rule_Set v6))]) 2 0 rfl rfl rfl rfl rfl ?_
  refine w_mv (env' := [(0, [.agg ([.pv (.bool a0.N.None), .pv (.sl (List.map e_itv_Itv a0.N.I)), .pv (.int .i64 a0.N.Z.N), .pv (.bool a0.N.Z.None)] ++ (bs (e_T42 a0.N.Z.D) ++ [.row 0, .row 1]))])]) (st' := [some (.row true true 53 2 (List.map e_itv_Itv v4)), some (.row true true 85 1 (List.map e_rule_Set v6)), none, none]) 3 1 rfl rfl rfl rfl rfl ?_
  refine w_cut 2 rfl rfl rfl rfl ?_
  exact wkE (by kernel_rfl) (by kernel_rfl)

theorem itv_All_meets {r : itv_Itv} (h : itv_All = some r) : MeetsV Try.prog GG 44 [] [.agg [.pv (.int .i64 r.Lo), .pv (.int .i64 r.Hi)]] := by
  refine MeetsS.toV (meetsW_of (st0 := []) (N := 2) r_itv_All o_itv_All r Try.func44 rfl rfl rfl (by dsimp only [argEnv]) rfl ?_) rfl
  unfold itv_All at h
  refine seq_ ?_
  refine region_ ?_
  refine B rfl rfl (bir_alloc rfl z53 rfl rfl) rfl rfl .z ?_
  refine ops_nil ?_
  refine then_ ?_
  refine seq_ ?_
  refine region_ ?_
  refine L rfl rfl (lt_build (cs := [.pv (.int .i64 (-2147483648)), .pv (.int .i64 2147483647)]) rfl st53 rfl (by kernel_rfl)) rfl ?_
  refine S rfl rfl rfl ty53 (by decide) rfl rfl rfl rfl rfl (.all rfl) .z ?_
  refine ops_nil ?_
  refine then_ ?_
  refine ret_ ?_
  obtain rfl := retE h
  refine rwr (rw_ (.cellA (ys := [.pv (.int .i64 (-2147483648)), .pv (.int .i64 2147483647)]) ty53 rfl rfl (by kernel_rfl) (by kernel_rfl) .nil) ?_)
  refine w_none 0 .z ?_
  refine w_cut 0 rfl rfl rfl rfl ?_
  exact wkE (by kernel_rfl) (by kernel_rfl)

theorem itv_Meet_meets {a0 : itv_Itv} {a1 : itv_Itv} {r : itv_Itv} (h : itv_Meet a0 a1 = some r) : MeetsV Try.prog GG 81 [.agg [.pv (.int .i64 a0.Lo), .pv (.int .i64 a0.Hi)], .agg [.pv (.int .i64 a1.Lo), .pv (.int .i64 a1.Hi)]] [.agg [.pv (.int .i64 r.Lo), .pv (.int .i64 r.Hi)]] := by
  refine MeetsS.toV (meetsW_of (st0 := []) (N := 24) r_itv_Meet o_itv_Meet r Try.func81 rfl rfl rfl (by dsimp only [argEnv]) rfl ?_) rfl
  unfold itv_Meet at h
  refine seq_ ?_
  refine region_ ?_
  refine B rfl rfl (bir_box rfl rfl rfl) rfl rfl .z ?_
  refine B rfl rfl (bir_box rfl rfl rfl) rfl rfl (.s .z) ?_
  refine B rfl rfl (bir_alloc rfl z53 rfl rfl) rfl rfl (.s (.s .z)) ?_
  refine ops_nil ?_
  refine then_ ?_
  refine seq_ ?_
  refine seq_ ?_
  refine jn_ (fun (j1 : Bool) => (⟨24, 0, [(2, [.c (.box 0 0)]), (3, [.c (.box 1 0)]), (4, [.c (.box 2 0)]), (10, [.c (.pv (.bool j1))])], [some (.box true 53 [.pv (.int .i64 a0.Lo), .pv (.int .i64 a0.Hi)]), some (.box true 53 [.pv (.int .i64 a1.Lo), .pv (.int .i64 a1.Hi)]), some (.box true 53 [.pv (.int .i64 0), .pv (.int .i64 0)])]⟩ : Sx)) h wT (fun o h => ?_) (fun j1 h => ?_)
  · refine region_ ?_
    refine R tbok 1 [5, 4, 3, 2] [(5, [.agg [.pv (.int .i64 a0.Lo), .pv (.int .i64 a0.Hi)]]), (4, [.c (.box 2 0)]), (3, [.c (.box 1 0)]), (2, [.c (.box 0 0)])] (by kernel_rfl) ?_
    obtain ⟨v1, k1, h⟩ := bindE h
    refine C rfl rfl (fl_call rfl Try.call31 rfl (by kernel_rfl) (by kernel_rfl) (itv_Empty_meets k1)) rfl ?_
    refine R tbok 1 [7, 4, 3, 2] [(7, [.c (.pv (.bool v1))]), (4, [.c (.box 2 0)]), (3, [.c (.box 1 0)]), (2, [.c (.box 0 0)])] (by kernel_rfl) ?_
    refine (tf v1).elim (fun k2 => ?_) (fun k2 => ?_)
    · have h := iteT h k2
      refine Ls0 rfl rfl rfl k2 rfl rfl ?_
      refine Ls0 rfl rfl rfl k2 rfl rfl ?_
      refine L rfl rfl (lt_pickT rfl rfl k2 rfl) rfl ?_
      refine ops_nil ?_
      obtain rfl := retE h
      refine mN ?_
      refine w_sub (env' := [(2, [.c (.box 0 0)]), (3, [.c (.box 1 0)]), (4, [.c (.box 2 0)]), (10, [.c (.pv (.bool true))])]) (sub_cons rfl (sub_cons rfl (sub_cons rfl (sub_cons rfl sub_nil)))) ?_
      exact wkE (by kernel_rfl) (by kernel_rfl)
    · have h := iteF h k2
      refine Lg rfl rfl rfl k2 rfl (lt_load_boxA (ys := [.pv (.int .i64 a1.Lo), .pv (.int .i64 a1.Hi)]) rfl ty53 rfl rfl (by kernel_rfl) (by kernel_rfl)) rfl ?_
      obtain ⟨v2, k3, h⟩ := bindE h
      refine Hg rfl rfl rfl k2 rfl rfl (op_fl rfl rfl (fl_call rfl Try.call31 rfl (by kernel_rfl) (by kernel_rfl) (itv_Empty_meets k3)) ?_)
      refine L rfl rfl (lt_pickF rfl rfl k2 rfl) rfl ?_
      refine ops_nil ?_
      obtain rfl := retE h
      refine mN ?_
      refine w_sub (env' := [(2, [.c (.box 0 0)]), (3, [.c (.box 1 0)]), (4, [.c (.box 2 0)]), (10, [.c (.pv (.bool v2))])]) (sub_cons rfl (sub_cons rfl (sub_cons rfl (sub_cons rfl sub_nil)))) ?_
      exact wkE (by kernel_rfl) (by kernel_rfl)
  · refine then_ ?_
    refine cond_ (b := j1) rfl (fun k4 => ?_) (fun k4 => ?_)
    · have h := iteT h k4
      refine seq_ ?_
      refine region_ ?_
      obtain ⟨v3, k5, h⟩ := bindE h
      refine C rfl rfl (fl_call rfl Try.call22 rfl (by kernel_rfl) (by kernel_rfl) (itv_None_meets k5)) rfl ?_
      refine S rfl rfl rfl ty53 (by decide) rfl rfl rfl rfl rfl (.all rfl) (.s (.s .z)) ?_
      refine ops_nil ?_
      refine then_ ?_
      refine ret_ ?_
      obtain rfl := retE h
      refine tR (rwr (rw_ (.cellA (ys := [.pv (.int .i64 v3.Lo), .pv (.int .i64 v3.Hi)]) ty53 rfl rfl (by kernel_rfl) (by kernel_rfl) .nil) ?_))
      refine w_none 0 .z ?_
      refine w_none 1 (.s .z) ?_
      refine w_none 2 (.s (.s .z)) ?_
      refine w_cut 0 rfl rfl rfl rfl ?_
      exact wkE (by kernel_rfl) (by kernel_rfl)
    · have h := iteF h k4
      refine skip_ ?_
      refine then_ ?_
      refine seq_ ?_
      refine region_ ?_
      refine R tbok 4 [15, 13, 2, 3, 4] [(15, [.c (.pv (.int .i64 a1.Lo))]), (13, [.c (.pv (.int .i64 a0.Lo))]), (2, [.c (.box 0 0)]), (3, [.c (.box 1 0)]), (4, [.c (.box 2 0)])] (by kernel_rfl) ?_
      refine L rfl rfl (lt_max2 rfl rfl rfl) rfl ?_
      refine R tbok 4 [20, 18, 16, 4] [(20, [.c (.pv (.int .i64 a1.Hi))]), (18, [.c (.pv (.int .i64 a0.Hi))]), (16, [.c (.pv (.int .i64 (max a0.Lo a1.Lo)))]), (4, [.c (.box 2 0)])] (by kernel_rfl) ?_
      refine L rfl rfl (lt_min2 rfl rfl rfl) rfl ?_
      refine L rfl rfl (lt_build (cs := [.pv (.int .i64 (max a0.Lo a1.Lo)), .pv (.int .i64 (min a0.Hi a1.Hi))]) rfl st53 rfl (by kernel_rfl)) rfl ?_
      obtain ⟨v4, k6, h⟩ := bindE h
      refine C rfl rfl (fl_call rfl Try.call33 rfl (by kernel_rfl) (by kernel_rfl) (itv_norm_meets k6)) rfl ?_
      refine S rfl rfl rfl ty53 (by decide) rfl rfl rfl rfl rfl (.all rfl) (.s (.s .z)) ?_
      refine ops_nil ?_
      refine then_ ?_
      refine ret_ ?_
      obtain rfl := retE h
      refine rwr (rw_ (.cellA (ys := [.pv (.int .i64 v4.Lo), .pv (.int .i64 v4.Hi)]) ty53 rfl rfl (by kernel_rfl) (by kernel_rfl) .nil) ?_)
      refine w_none 0 .z ?_
      refine w_none 1 (.s .z) ?_
      refine w_none 2 (.s (.s .z)) ?_
      refine w_cut 0 rfl rfl rfl rfl ?_
      exact wkE (by kernel_rfl) (by kernel_rfl)

theorem itv_cut_meets {a0 : Int} {a1 : Int} {r : (itv_Itv × itv_Errs)} (h : itv_cut a0 a1 = some r) : MeetsV Try.prog GG 100 [.c (.pv (.int .i64 a0)), .c (.pv (.int .i64 a1))] [.agg [.pv (.int .i64 r.1.Lo), .pv (.int .i64 r.1.Hi)], .agg [.pv (.bool r.2.Overflow), .pv (.bool r.2.DivZero)]] := by
  refine MeetsS.toV (meetsW_of (st0 := []) (N := 16) r_itv_cut o_itv_cut r Try.func100 rfl rfl rfl (by dsimp only [argEnv]) rfl ?_) rfl
  unfold itv_cut at h
  refine seq_ ?_
  refine region_ ?_
  refine B rfl rfl (bir_alloc rfl z53 rfl rfl) rfl rfl .z ?_
  refine B rfl rfl (bir_alloc rfl z120 rfl rfl) rfl rfl (.s .z) ?_
  refine ops_nil ?_
  refine then_ ?_
  refine seq_ ?_
  refine jn_ (fun (j1 : (Int × Int × Bool)) => (⟨16, 0, [(4, [.c (.box 0 0)]), (5, [.c (.box 1 0)])], [some (.box true 53 [.pv (.int .i64 j1.1), .pv (.int .i64 j1.2.1)]), some (.box true 120 [.pv (.bool j1.2.2), .pv (.bool false)])]⟩ : Sx)) h wT (fun o h => ?_) (fun j1 h => ?_)
  · refine region_ ?_
    refine R tbok 2 [7, 6, 5, 4, 0, 1] [(7, [.c (.pv (.int .i64 a1))]), (6, [.c (.pv (.int .i64 a0))]), (5, [.c (.box 1 0)]), (4, [.c (.box 0 0)]), (0, [.c (.pv (.int .i64 a0))]), (1, [.c (.pv (.int .i64 a1))])] (by kernel_rfl) ?_
    obtain ⟨v1, k1, h⟩ := bindE h
    refine C rfl rfl (fl_call rfl Try.call17 rfl (by kernel_rfl) (by kernel_rfl) (itv_Of_meets k1)) rfl ?_
    refine R tbok 3 [11, 8, 5, 4, 1] [(11, [.c (.pv (.bool (decide (a0 < (-2147483648)))))]), (8, [.agg [.pv (.int .i64 v1.Lo), .pv (.int .i64 v1.Hi)]]), (5, [.c (.box 1 0)]), (4, [.c (.box 0 0)]), (1, [.c (.pv (.int .i64 a1))])] (by kernel_rfl) ?_
    refine (tf (decide (a0 < (-2147483648)))).elim (fun k2 => ?_) (fun k2 => ?_)
    · have h := iteT h k2
      refine Ls0 rfl rfl rfl k2 rfl rfl ?_
      refine Ls0 rfl rfl rfl k2 rfl rfl ?_
      refine L rfl rfl (lt_pickT rfl rfl k2 rfl) rfl ?_
      refine L rfl rfl (lt_build (cs := [.pv (.bool true), .pv (.bool false)]) rfl st120 rfl (by kernel_rfl)) rfl ?_
      refine S rfl rfl rfl ty53 (by decide) rfl rfl rfl rfl rfl (.all rfl) .z ?_
      refine S rfl rfl rfl ty120 (by decide) rfl rfl rfl rfl rfl (.all rfl) (.s .z) ?_
      refine ops_nil ?_
      obtain rfl := retE h
      refine mN ?_
      refine w_sub (env' := [(4, [.c (.box 0 0)]), (5, [.c (.box 1 0)])]) (sub_cons rfl (sub_cons rfl sub_nil)) ?_
      exact wkE (by kernel_rfl) (by kernel_rfl)
    · have h := iteF h k2
      refine Lg rfl rfl rfl k2 rfl (lt_move rfl rfl) rfl ?_
      refine Lg rfl rfl rfl k2 rfl (lt_int rfl rfl rfl rfl) rfl ?_
      refine L rfl rfl (lt_pickF rfl rfl k2 rfl) rfl ?_
      refine L rfl rfl (lt_build (cs := [.pv (.bool (decide (a1 > 2147483647))), .pv (.bool false)]) rfl st120 rfl (by kernel_rfl)) rfl ?_
      refine S rfl rfl rfl ty53 (by decide) rfl rfl rfl rfl rfl (.all rfl) .z ?_
      refine S rfl rfl rfl ty120 (by decide) rfl rfl rfl rfl rfl (.all rfl) (.s .z) ?_
      refine ops_nil ?_
      obtain rfl := retE h
      refine mN ?_
      refine w_sub (env' := [(4, [.c (.box 0 0)]), (5, [.c (.box 1 0)])]) (sub_cons rfl (sub_cons rfl sub_nil)) ?_
      exact wkE (by kernel_rfl) (by kernel_rfl)
  · refine then_ ?_
    refine ret_ ?_
    obtain rfl := retE h
    refine rwr (rw_ (.cellA (ys := [.pv (.int .i64 j1.1), .pv (.int .i64 j1.2.1)]) ty53 rfl rfl (by kernel_rfl) (by kernel_rfl) (.cellA (ys := [.pv (.bool j1.2.2), .pv (.bool false)]) ty120 rfl rfl (by kernel_rfl) (by kernel_rfl) .nil)) ?_)
    refine w_none 0 .z ?_
    refine w_none 1 (.s .z) ?_
    refine w_cut 0 rfl rfl rfl rfl ?_
    exact wkE (by kernel_rfl) (by kernel_rfl)

theorem itv_Do_1_meets {a0 : Int} {a1 : Int} {r : Int} (h : itv_Do_1 a0 a1 = some r) : MeetsV Try.prog GG 102 [.c (.pv (.int .i64 a0)), .c (.pv (.int .i64 a1))] [.c (.pv (.int .i64 r))] := by
  refine MeetsS.toV (meetsW_of (st0 := []) (N := 8) r_itv_Do_1 o_itv_Do_1 r Try.func102 rfl rfl rfl (by dsimp only [argEnv]) rfl ?_) rfl
  unfold itv_Do_1 at h
  refine seq_ ?_
  refine region_ ?_
  refine R tbok 1 [4, 0, 1] [(4, [.c (.pv (.int .i64 0))]), (0, [.c (.pv (.int .i64 a0))]), (1, [.c (.pv (.int .i64 a1))])] (by kernel_rfl) ?_
  refine ops_nil ?_
  refine then_ ?_
  refine seq_ ?_
  refine region_ ?_
  refine R tbok 4 [4] [(4, [.c (.pv (.int .i64 (IntKind.i64.wrap (a0 * a1))))])] (by kernel_rfl) ?_
  refine ops_nil ?_
  refine then_ ?_
  refine ret_ ?_
  obtain rfl := retE h
  refine rwr (rw_ (.tmp rfl .nil) ?_)
  exact wkE (by kernel_rfl) (by kernel_rfl)

theorem itv_corners_itv_Do_1_meets {a1 : itv_Itv} {a2 : itv_Itv} {r : (Int × Int)} (h : itv_corners_itv_Do_1 a1 a2 = some r) : MeetsV Try.prog GG 101 [.fn (.func 102) [] [], .agg [.pv (.int .i64 a1.Lo), .pv (.int .i64 a1.Hi)], .agg [.pv (.int .i64 a2.Lo), .pv (.int .i64 a2.Hi)]] [.c (.pv (.int .i64 r.1)), .c (.pv (.int .i64 r.2))] := by
  refine MeetsS.toV (meetsW_of (st0 := []) (N := 46) r_itv_corners_itv_Do_1 o_itv_corners_itv_Do_1 r Try.func101 rfl rfl rfl (by dsimp only [argEnv]) rfl ?_) rfl
  unfold itv_corners_itv_Do_1 at h
  refine seq_ ?_
  refine region_ ?_
  refine B rfl rfl (bir_box rfl rfl rfl) rfl rfl .z ?_
  refine B rfl rfl (bir_box rfl rfl rfl) rfl rfl (.s .z) ?_
  refine R tbok 2 [7, 6, 5, 4, 0] [(7, [.c (.pv (.int .i64 0))]), (6, [.c (.pv (.int .i64 0))]), (5, [.c (.box 1 0)]), (4, [.c (.box 0 0)]), (0, [.fn (.func 102) [] []])] (by kernel_rfl) ?_
  refine ops_nil ?_
  refine then_ ?_
  refine seq_ ?_
  refine drawn_ mixed ?_
  refine dl (t := 12) 0 [.fn (.func 102) [] []] rfl ?_
  refine dl (t := 13) 1 [.c (.box 0 0)] rfl ?_
  refine dl (t := 14) 2 [.c (.pv (.int .i64 a1.Lo))] rfl ?_
  refine dl (t := 15) 3 [.c (.box 1 0)] rfl ?_
  refine dl (t := 16) 4 [.c (.pv (.int .i64 a2.Lo))] rfl ?_
  obtain ⟨v2, k2, h⟩ := bindE h
  refine dl (t := 17) 5 [.c (.pv (.int .i64 v2))] rfl ?_
  refine dl (t := 18) 6 [.fn (.func 102) [] []] rfl ?_
  refine dl (t := 19) 7 [.c (.box 0 0)] rfl ?_
  refine dl (t := 20) 8 [.c (.pv (.int .i64 a1.Lo))] rfl ?_
  refine dl (t := 21) 9 [.c (.box 1 1)] rfl ?_
  refine dl (t := 22) 10 [.c (.pv (.int .i64 a2.Hi))] rfl ?_
  obtain ⟨v4, k4, h⟩ := bindE h
  refine dl (t := 23) 11 [.c (.pv (.int .i64 v4))] rfl ?_
  refine dl (t := 24) 12 [.fn (.func 102) [] []] rfl ?_
  refine dl (t := 25) 13 [.c (.box 0 1)] rfl ?_
  refine dl (t := 26) 14 [.c (.pv (.int .i64 a1.Hi))] rfl ?_
  refine dl (t := 27) 15 [.c (.box 1 0)] rfl ?_
  refine dl (t := 28) 16 [.c (.pv (.int .i64 a2.Lo))] rfl ?_
  obtain ⟨v6, k6, h⟩ := bindE h
  refine dl (t := 29) 17 [.c (.pv (.int .i64 v6))] rfl ?_
  refine dl (t := 30) 18 [.fn (.func 102) [] []] rfl ?_
  refine dl (t := 31) 19 [.c (.box 0 1)] rfl ?_
  refine dl (t := 32) 20 [.c (.pv (.int .i64 a1.Hi))] rfl ?_
  refine dl (t := 33) 21 [.c (.box 1 1)] rfl ?_
  refine dl (t := 34) 22 [.c (.pv (.int .i64 a2.Hi))] rfl ?_
  obtain ⟨v8, k8, h⟩ := bindE h
  refine dl (t := 35) 23 [.c (.pv (.int .i64 v8))] rfl ?_
  refine dl (t := 8) 24 [.c (.pv (.int .i64 v2))] rfl ?_
  refine dl (t := 9) 25 [.c (.pv (.int .i64 v4))] rfl ?_
  refine dl (t := 10) 26 [.c (.pv (.int .i64 v6))] rfl ?_
  refine dl (t := 11) 27 [.c (.pv (.int .i64 v8))] rfl ?_
  refine d_endS (env2 := [(11, [.c (.pv (.int .i64 v8))]), (10, [.c (.pv (.int .i64 v6))]), (9, [.c (.pv (.int .i64 v4))]), (8, [.c (.pv (.int .i64 v2))]), (7, [.c (.pv (.int .i64 0))]), (6, [.c (.pv (.int .i64 0))])]) (wm [0, 0, 2, 0, 8, 31, 0, 0, 128, 0, 512, 2047, 0, 0, 8192, 0, 32768, 131071, 0, 0, 524288, 0, 2097152, 8388607, 16777215, 33554431, 67108863, 134217727]) (by kernel_rfl) (by kernel_rfl) (by kernel_rfl) (oE tbok [] 4 (by kernel_rfl) (oL [] rfl (by kernel_rfl) (fl_callFn rfl rfl Try.call102 rfl (by kernel_rfl) (by kernel_rfl) (itv_Do_1_meets k8)) (oE tbok [] 5 (by kernel_rfl) (oL [] rfl (by kernel_rfl) (fl_callFn rfl rfl Try.call102 rfl (by kernel_rfl) (by kernel_rfl) (itv_Do_1_meets k6)) (oE tbok [] 5 (by kernel_rfl) (oL [] rfl (by kernel_rfl) (fl_callFn rfl rfl Try.call102 rfl (by kernel_rfl) (by kernel_rfl) (itv_Do_1_meets k4)) (oE tbok [] 5 (by kernel_rfl) (oL [] rfl (by kernel_rfl) (fl_callFn rfl rfl Try.call102 rfl (by kernel_rfl) (by kernel_rfl) (itv_Do_1_meets k2)) (oE tbok [] 5 (by kernel_rfl) trivial))))))))) (sub_cons rfl (sub_cons rfl (sub_cons rfl (sub_cons rfl (sub_cons rfl (sub_cons rfl sub_nil)))))) wT ?_
  refine then_ ?_
  refine seq_ ?_
  refine region_ ?_
  refine R tbok 4 [39, 38, 37, 36, 11, 10, 9, 8, 7, 6] [(39, [.c (.pv (.int .i64 v8))]), (38, [.c (.pv (.int .i64 v6))]), (37, [.c (.pv (.int .i64 v4))]), (36, [.c (.pv (.int .i64 v2))]), (11, [.c (.pv (.int .i64 v8))]), (10, [.c (.pv (.int .i64 v6))]), (9, [.c (.pv (.int .i64 v4))]), (8, [.c (.pv (.int .i64 v2))]), (7, [.c (.pv (.int .i64 0))]), (6, [.c (.pv (.int .i64 0))])] (by kernel_rfl) ?_
  refine L rfl rfl (lt_min4 rfl rfl rfl rfl rfl) rfl ?_
  refine R tbok 4 [44, 43, 42, 41, 40, 7, 6] [(44, [.c (.pv (.int .i64 v8))]), (43, [.c (.pv (.int .i64 v6))]), (42, [.c (.pv (.int .i64 v4))]), (41, [.c (.pv (.int .i64 v2))]), (40, [.c (.pv (.int .i64 (min (min (min v2 v4) v6) v8)))]), (7, [.c (.pv (.int .i64 0))]), (6, [.c (.pv (.int .i64 0))])] (by kernel_rfl) ?_
  refine L rfl rfl (lt_max4 rfl rfl rfl rfl rfl) rfl ?_
  refine R tbok 2 [7, 6] [(7, [.c (.pv (.int .i64 (max (max (max v2 v4) v6) v8)))]), (6, [.c (.pv (.int .i64 (min (min (min v2 v4) v6) v8)))])] (by kernel_rfl) ?_
  refine ops_nil ?_
  refine then_ ?_
  refine ret_ ?_
  obtain rfl := retE h
  refine rwr (rw_ (.tmp rfl (.tmp rfl .nil)) ?_)
  refine w_none 0 .z ?_
  refine w_none 1 (.s .z) ?_
  refine w_cut 0 rfl rfl rfl rfl ?_
  exact wkE (by kernel_rfl) (by kernel_rfl)

theorem itv_Has_meets {a0 : itv_Itv} {a1 : Int} {r : Bool} (h : itv_Has a0 a1 = some r) : MeetsV Try.prog GG 105 [.agg [.pv (.int .i64 a0.Lo), .pv (.int .i64 a0.Hi)], .c (.pv (.int .i64 a1))] [.c (.pv (.bool r))] := by
  refine MeetsS.toV (meetsW_of (st0 := []) (N := 15) r_itv_Has o_itv_Has r Try.func105 rfl rfl rfl (by dsimp only [argEnv]) rfl ?_) rfl
  unfold itv_Has at h
  refine seq_ ?_
  refine region_ ?_
  refine B rfl rfl (bir_box rfl rfl rfl) rfl rfl .z ?_
  refine R tbok 1 [4, 2, 1] [(4, [.c (.pv (.bool false))]), (2, [.c (.box 0 0)]), (1, [.c (.pv (.int .i64 a1))])] (by kernel_rfl) ?_
  refine ops_nil ?_
  refine then_ ?_
  refine seq_ ?_
  refine jn_ (fun (j1 : Bool) => (⟨15, 0, [(4, [.c (.pv (.bool j1))])], []⟩ : Sx)) h wT (fun o h => ?_) (fun j1 h => ?_)
  · refine region_ ?_
    refine R tbok 5 [9, 4, 2, 1] [(9, [.c (.pv (.bool (decide (a0.Lo ≤ a1))))]), (4, [.c (.pv (.bool false))]), (2, [.c (.box 0 0)]), (1, [.c (.pv (.int .i64 a1))])] (by kernel_rfl) ?_
    refine (tf (decide (a0.Lo ≤ a1))).elim (fun k1 => ?_) (fun k1 => ?_)
    · have h := iteT h k1
      refine Lg rfl rfl rfl k1 rfl (lt_move rfl rfl) rfl ?_
      refine Lg rfl rfl rfl k1 rfl (lt_fa_box rfl f53_1 ty3 (by decide) rfl) rfl ?_
      refine Lg rfl rfl rfl k1 rfl (lt_load_box rfl ty3 rfl rfl rfl) rfl ?_
      refine Lg rfl rfl rfl k1 rfl (lt_int rfl rfl rfl rfl) rfl ?_
      refine L rfl rfl (lt_pickT rfl rfl k1 rfl) rfl ?_
      refine R tbok 1 [4] [(4, [.c (.pv (.bool (decide (a1 ≤ a0.Hi))))])] (by kernel_rfl) ?_
      refine ops_nil ?_
      obtain rfl := retE h
      refine mN ?_
      refine w_cut 0 rfl rfl rfl rfl ?_
      exact wkE (by kernel_rfl) (by kernel_rfl)
    · have h := iteF h k1
      refine Ls0 rfl rfl rfl k1 rfl rfl ?_
      refine Ls0 rfl rfl rfl k1 rfl rfl ?_
      refine Ls0 rfl rfl rfl k1 rfl rfl ?_
      refine Ls0 rfl rfl rfl k1 rfl rfl ?_
      refine L rfl rfl (lt_pickF rfl rfl k1 rfl) rfl ?_
      refine R tbok 1 [4] [(4, [.c (.pv (.bool false))])] (by kernel_rfl) ?_
      refine ops_nil ?_
      obtain rfl := retE h
      refine mN ?_
      refine w_cut 0 rfl rfl rfl rfl ?_
      exact wkE (by kernel_rfl) (by kernel_rfl)
  · refine then_ ?_
    refine ret_ ?_
    obtain rfl := retE h
    refine rwr (rw_ (.tmp rfl .nil) ?_)
    exact wkE (by kernel_rfl) (by kernel_rfl)

theorem itv_rest_meets {a0 : itv_Itv} {a1 : itv_Itv} {r : itv_Itv} (h : itv_rest a0 a1 = some r) : MeetsV Try.prog GG 106 [.agg [.pv (.int .i64 a0.Lo), .pv (.int .i64 a0.Hi)], .agg [.pv (.int .i64 a1.Lo), .pv (.int .i64 a1.Hi)]] [.agg [.pv (.int .i64 r.Lo), .pv (.int .i64 r.Hi)]] := by
  refine MeetsS.toV (meetsW_of (st0 := []) (N := 48) r_itv_rest o_itv_rest r Try.func106 rfl rfl rfl (by dsimp only [argEnv]) rfl ?_) rfl
  unfold itv_rest at h
  refine seq_ ?_
  refine region_ ?_
  refine B rfl rfl (bir_box rfl rfl rfl) rfl rfl .z ?_
  refine B rfl rfl (bir_box rfl rfl rfl) rfl rfl (.s .z) ?_
  refine B rfl rfl (bir_alloc rfl z53 rfl rfl) rfl rfl (.s (.s .z)) ?_
  refine ops_nil ?_
  refine then_ ?_
  refine seq_ ?_
  refine seq_ ?_
  refine jn_ (fun (j1 : Bool) => (⟨48, 0, [(2, [.c (.box 0 0)]), (3, [.c (.box 1 0)]), (4, [.c (.box 2 0)]), (17, [.c (.pv (.bool j1))])], [some (.box true 53 [.pv (.int .i64 a0.Lo), .pv (.int .i64 a0.Hi)]), some (.box true 53 [.pv (.int .i64 a1.Lo), .pv (.int .i64 a1.Hi)]), some (.box true 53 [.pv (.int .i64 0), .pv (.int .i64 0)])]⟩ : Sx)) h wT (fun o h => ?_) (fun j1 h => ?_)
  · refine region_ ?_
    refine R tbok 6 [11, 4, 3, 2] [(11, [.c (.pv (.bool (a0.Lo == a0.Hi)))]), (4, [.c (.box 2 0)]), (3, [.c (.box 1 0)]), (2, [.c (.box 0 0)])] (by kernel_rfl) ?_
    refine (tf (a0.Lo == a0.Hi)).elim (fun k1 => ?_) (fun k1 => ?_)
    · have h := iteT h k1
      refine Lg rfl rfl rfl k1 rfl (lt_fa_box rfl f53_0 ty3 (by decide) rfl) rfl ?_
      refine Lg rfl rfl rfl k1 rfl (lt_load_box rfl ty3 rfl rfl rfl) rfl ?_
      refine Lg rfl rfl rfl k1 rfl (lt_fa_box rfl f53_1 ty3 (by decide) rfl) rfl ?_
      refine Lg rfl rfl rfl k1 rfl (lt_load_box rfl ty3 rfl rfl rfl) rfl ?_
      refine Lg rfl rfl rfl k1 rfl (lt_int rfl rfl rfl rfl) rfl ?_
      refine L rfl rfl (lt_pickT rfl rfl k1 rfl) rfl ?_
      refine ops_nil ?_
      obtain rfl := retE h
      refine mN ?_
      refine w_sub (env' := [(2, [.c (.box 0 0)]), (3, [.c (.box 1 0)]), (4, [.c (.box 2 0)]), (17, [.c (.pv (.bool (a1.Lo == a1.Hi)))])]) (sub_cons rfl (sub_cons rfl (sub_cons rfl (sub_cons rfl sub_nil)))) ?_
      exact wkE (by kernel_rfl) (by kernel_rfl)
    · have h := iteF h k1
      refine Ls0 rfl rfl rfl k1 rfl rfl ?_
      refine Ls0 rfl rfl rfl k1 rfl rfl ?_
      refine Ls0 rfl rfl rfl k1 rfl rfl ?_
      refine Ls0 rfl rfl rfl k1 rfl rfl ?_
      refine Ls0 rfl rfl rfl k1 rfl rfl ?_
      refine L rfl rfl (lt_pickF rfl rfl k1 rfl) rfl ?_
      refine ops_nil ?_
      obtain rfl := retE h
      refine mN ?_
      refine w_sub (env' := [(2, [.c (.box 0 0)]), (3, [.c (.box 1 0)]), (4, [.c (.box 2 0)]), (17, [.c (.pv (.bool false))])]) (sub_cons rfl (sub_cons rfl (sub_cons rfl (sub_cons rfl sub_nil)))) ?_
      exact wkE (by kernel_rfl) (by kernel_rfl)
  · refine then_ ?_
    refine cond_ (b := j1) rfl (fun k2 => ?_) (fun k2 => ?_)
    · have h := iteT h k2
      refine seq_ ?_
      refine region_ ?_
      refine R tbok 4 [21, 19, 2, 3, 4] [(21, [.c (.pv (.int .i64 a1.Lo))]), (19, [.c (.pv (.int .i64 a0.Lo))]), (2, [.c (.box 0 0)]), (3, [.c (.box 1 0)]), (4, [.c (.box 2 0)])] (by kernel_rfl) ?_
      obtain ⟨v1, k3, h⟩ := bindE h
      refine L rfl rfl (rem_ rfl rfl rfl k3) rfl ?_
      obtain ⟨v2, k4, h⟩ := bindE h
      refine C rfl rfl (fl_call rfl Try.call15 rfl (by kernel_rfl) (by kernel_rfl) (itv_Const_meets k4)) rfl ?_
      refine S rfl rfl rfl ty53 (by decide) rfl rfl rfl rfl rfl (.all rfl) (.s (.s .z)) ?_
      refine ops_nil ?_
      refine then_ ?_
      refine ret_ ?_
      obtain rfl := retE h
      refine tR (rwr (rw_ (.cellA (ys := [.pv (.int .i64 v2.Lo), .pv (.int .i64 v2.Hi)]) ty53 rfl rfl (by kernel_rfl) (by kernel_rfl) .nil) ?_))
      refine w_none 0 .z ?_
      refine w_none 1 (.s .z) ?_
      refine w_none 2 (.s (.s .z)) ?_
      refine w_cut 0 rfl rfl rfl rfl ?_
      exact wkE (by kernel_rfl) (by kernel_rfl)
    · have h := iteF h k2
      refine skip_ ?_
      refine then_ ?_
      refine seq_ ?_
      refine region_ ?_
      refine R tbok 10 [33, 30, 28, 26, 2, 4] [(33, [.c (.pv (.int .i64 (IntKind.i64.wrap (0 - a1.Hi))))]), (30, [.c (.pv (.int .i64 a1.Lo))]), (28, [.c (.pv (.int .i64 a1.Hi))]), (26, [.c (.pv (.int .i64 (IntKind.i64.wrap (0 - a1.Lo))))]), (2, [.c (.box 0 0)]), (4, [.c (.box 2 0)])] (by kernel_rfl) ?_
      refine L rfl rfl (lt_max4 rfl rfl rfl rfl rfl) rfl ?_
      refine R tbok 2 [5, 2, 4] [(5, [.c (.pv (.int .i64 (IntKind.i64.wrap ((max (max (max (IntKind.i64.wrap (0 - a1.Lo)) a1.Hi) a1.Lo) (IntKind.i64.wrap (0 - a1.Hi))) - 1))))]), (2, [.c (.box 0 0)]), (4, [.c (.box 2 0)])] (by kernel_rfl) ?_
      refine ops_nil ?_
      refine then_ ?_
      refine seq_ ?_
      refine region_ ?_
      refine R tbok 2 [37, 5, 2, 4] [(37, [.c (.pv (.int .i64 a0.Lo))]), (5, [.c (.pv (.int .i64 (IntKind.i64.wrap ((max (max (max (IntKind.i64.wrap (0 - a1.Lo)) a1.Hi) a1.Lo) (IntKind.i64.wrap (0 - a1.Hi))) - 1))))]), (2, [.c (.box 0 0)]), (4, [.c (.box 2 0)])] (by kernel_rfl) ?_
      refine L rfl rfl (lt_min2 rfl rfl rfl) rfl ?_
      refine R tbok 2 [40, 38, 5, 2, 4] [(40, [.c (.pv (.int .i64 (IntKind.i64.wrap (0 - (IntKind.i64.wrap ((max (max (max (IntKind.i64.wrap (0 - a1.Lo)) a1.Hi) a1.Lo) (IntKind.i64.wrap (0 - a1.Hi))) - 1))))))]), (38, [.c (.pv (.int .i64 (min a0.Lo 0)))]), (5, [.c (.pv (.int .i64 (IntKind.i64.wrap ((max (max (max (IntKind.i64.wrap (0 - a1.Lo)) a1.Hi) a1.Lo) (IntKind.i64.wrap (0 - a1.Hi))) - 1))))]), (2, [.c (.box 0 0)]), (4, [.c (.box 2 0)])] (by kernel_rfl) ?_
      refine L rfl rfl (lt_max2 rfl rfl rfl) rfl ?_
      refine R tbok 2 [43, 41, 5, 4] [(43, [.c (.pv (.int .i64 a0.Hi))]), (41, [.c (.pv (.int .i64 (max (min a0.Lo 0) (IntKind.i64.wrap (0 - (IntKind.i64.wrap ((max (max (max (IntKind.i64.wrap (0 - a1.Lo)) a1.Hi) a1.Lo) (IntKind.i64.wrap (0 - a1.Hi))) - 1)))))))]), (5, [.c (.pv (.int .i64 (IntKind.i64.wrap ((max (max (max (IntKind.i64.wrap (0 - a1.Lo)) a1.Hi) a1.Lo) (IntKind.i64.wrap (0 - a1.Hi))) - 1))))]), (4, [.c (.box 2 0)])] (by kernel_rfl) ?_
      refine L rfl rfl (lt_max2 rfl rfl rfl) rfl ?_
      refine R tbok 1 [45, 44, 41, 4] [(45, [.c (.pv (.int .i64 (IntKind.i64.wrap ((max (max (max (IntKind.i64.wrap (0 - a1.Lo)) a1.Hi) a1.Lo) (IntKind.i64.wrap (0 - a1.Hi))) - 1))))]), (44, [.c (.pv (.int .i64 (max a0.Hi 0)))]), (41, [.c (.pv (.int .i64 (max (min a0.Lo 0) (IntKind.i64.wrap (0 - (IntKind.i64.wrap ((max (max (max (IntKind.i64.wrap (0 - a1.Lo)) a1.Hi) a1.Lo) (IntKind.i64.wrap (0 - a1.Hi))) - 1)))))))]), (4, [.c (.box 2 0)])] (by kernel_rfl) ?_
      refine L rfl rfl (lt_min2 rfl rfl rfl) rfl ?_
      obtain ⟨v3, k5, h⟩ := bindE h
      refine C rfl rfl (fl_call rfl Try.call17 rfl (by kernel_rfl) (by kernel_rfl) (itv_Of_meets k5)) rfl ?_
      refine S rfl rfl rfl ty53 (by decide) rfl rfl rfl rfl rfl (.all rfl) (.s (.s .z)) ?_
      refine ops_nil ?_
      refine then_ ?_
      refine ret_ ?_
      obtain rfl := retE h
      refine rwr (rw_ (.cellA (ys := [.pv (.int .i64 v3.Lo), .pv (.int .i64 v3.Hi)]) ty53 rfl rfl (by kernel_rfl) (by kernel_rfl) .nil) ?_)
      refine w_none 0 .z ?_
      refine w_none 1 (.s .z) ?_
      refine w_none 2 (.s (.s .z)) ?_
      refine w_cut 0 rfl rfl rfl rfl ?_
      exact wkE (by kernel_rfl) (by kernel_rfl)

theorem itv_quotient_1_meets {a0 : Int} {a1 : Int} {r : Int} (h : itv_quotient_1 a0 a1 = some r) : MeetsV Try.prog GG 108 [.c (.pv (.int .i64 a0)), .c (.pv (.int .i64 a1))] [.c (.pv (.int .i64 r))] := by
  refine MeetsS.toV (meetsW_of (st0 := []) (N := 8) r_itv_quotient_1 o_itv_quotient_1 r Try.func108 rfl rfl rfl (by dsimp only [argEnv]) rfl ?_) rfl
  unfold itv_quotient_1 at h
  refine seq_ ?_
  refine region_ ?_
  refine R tbok 1 [4, 0, 1] [(4, [.c (.pv (.int .i64 0))]), (0, [.c (.pv (.int .i64 a0))]), (1, [.c (.pv (.int .i64 a1))])] (by kernel_rfl) ?_
  refine ops_nil ?_
  refine then_ ?_
  refine seq_ ?_
  refine region_ ?_
  refine R tbok 2 [6, 5, 4] [(6, [.c (.pv (.int .i64 a1))]), (5, [.c (.pv (.int .i64 a0))]), (4, [.c (.pv (.int .i64 0))])] (by kernel_rfl) ?_
  obtain ⟨v1, k1, h⟩ := bindE h
  refine L rfl rfl (quo_ rfl rfl rfl k1) rfl ?_
  refine R tbok 1 [4] [(4, [.c (.pv (.int .i64 v1))])] (by kernel_rfl) ?_
  refine ops_nil ?_
  refine then_ ?_
  refine ret_ ?_
  obtain rfl := retE h
  refine rwr (rw_ (.tmp rfl .nil) ?_)
  exact wkE (by kernel_rfl) (by kernel_rfl)

theorem itv_corners_itv_quotient_1_meets {a1 : itv_Itv} {a2 : itv_Itv} {r : (Int × Int)} (h : itv_corners_itv_quotient_1 a1 a2 = some r) : MeetsV Try.prog GG 101 [.fn (.func 108) [] [], .agg [.pv (.int .i64 a1.Lo), .pv (.int .i64 a1.Hi)], .agg [.pv (.int .i64 a2.Lo), .pv (.int .i64 a2.Hi)]] [.c (.pv (.int .i64 r.1)), .c (.pv (.int .i64 r.2))] := by
  refine MeetsS.toV (meetsW_of (st0 := []) (N := 46) r_itv_corners_itv_quotient_1 o_itv_corners_itv_quotient_1 r Try.func101 rfl rfl rfl (by dsimp only [argEnv]) rfl ?_) rfl
  unfold itv_corners_itv_quotient_1 at h
  refine seq_ ?_
  refine region_ ?_
  refine B rfl rfl (bir_box rfl rfl rfl) rfl rfl .z ?_
  refine B rfl rfl (bir_box rfl rfl rfl) rfl rfl (.s .z) ?_
  refine R tbok 2 [7, 6, 5, 4, 0] [(7, [.c (.pv (.int .i64 0))]), (6, [.c (.pv (.int .i64 0))]), (5, [.c (.box 1 0)]), (4, [.c (.box 0 0)]), (0, [.fn (.func 108) [] []])] (by kernel_rfl) ?_
  refine ops_nil ?_
  refine then_ ?_
  refine seq_ ?_
  refine drawn_ mixed ?_
  refine dl (t := 12) 0 [.fn (.func 108) [] []] rfl ?_
  refine dl (t := 13) 1 [.c (.box 0 0)] rfl ?_
  refine dl (t := 14) 2 [.c (.pv (.int .i64 a1.Lo))] rfl ?_
  refine dl (t := 15) 3 [.c (.box 1 0)] rfl ?_
  refine dl (t := 16) 4 [.c (.pv (.int .i64 a2.Lo))] rfl ?_
  obtain ⟨v2, k2, h⟩ := bindE h
  refine dl (t := 17) 5 [.c (.pv (.int .i64 v2))] rfl ?_
  refine dl (t := 18) 6 [.fn (.func 108) [] []] rfl ?_
  refine dl (t := 19) 7 [.c (.box 0 0)] rfl ?_
  refine dl (t := 20) 8 [.c (.pv (.int .i64 a1.Lo))] rfl ?_
  refine dl (t := 21) 9 [.c (.box 1 1)] rfl ?_
  refine dl (t := 22) 10 [.c (.pv (.int .i64 a2.Hi))] rfl ?_
  obtain ⟨v4, k4, h⟩ := bindE h
  refine dl (t := 23) 11 [.c (.pv (.int .i64 v4))] rfl ?_
  refine dl (t := 24) 12 [.fn (.func 108) [] []] rfl ?_
  refine dl (t := 25) 13 [.c (.box 0 1)] rfl ?_
  refine dl (t := 26) 14 [.c (.pv (.int .i64 a1.Hi))] rfl ?_
  refine dl (t := 27) 15 [.c (.box 1 0)] rfl ?_
  refine dl (t := 28) 16 [.c (.pv (.int .i64 a2.Lo))] rfl ?_
  obtain ⟨v6, k6, h⟩ := bindE h
  refine dl (t := 29) 17 [.c (.pv (.int .i64 v6))] rfl ?_
  refine dl (t := 30) 18 [.fn (.func 108) [] []] rfl ?_
  refine dl (t := 31) 19 [.c (.box 0 1)] rfl ?_
  refine dl (t := 32) 20 [.c (.pv (.int .i64 a1.Hi))] rfl ?_
  refine dl (t := 33) 21 [.c (.box 1 1)] rfl ?_
  refine dl (t := 34) 22 [.c (.pv (.int .i64 a2.Hi))] rfl ?_
  obtain ⟨v8, k8, h⟩ := bindE h
  refine dl (t := 35) 23 [.c (.pv (.int .i64 v8))] rfl ?_
  refine dl (t := 8) 24 [.c (.pv (.int .i64 v2))] rfl ?_
  refine dl (t := 9) 25 [.c (.pv (.int .i64 v4))] rfl ?_
  refine dl (t := 10) 26 [.c (.pv (.int .i64 v6))] rfl ?_
  refine dl (t := 11) 27 [.c (.pv (.int .i64 v8))] rfl ?_
  refine d_endS (env2 := [(11, [.c (.pv (.int .i64 v8))]), (10, [.c (.pv (.int .i64 v6))]), (9, [.c (.pv (.int .i64 v4))]), (8, [.c (.pv (.int .i64 v2))]), (7, [.c (.pv (.int .i64 0))]), (6, [.c (.pv (.int .i64 0))])]) (wm [0, 0, 2, 0, 8, 31, 0, 0, 128, 0, 512, 2047, 0, 0, 8192, 0, 32768, 131071, 0, 0, 524288, 0, 2097152, 8388607, 16777215, 33554431, 67108863, 134217727]) (by kernel_rfl) (by kernel_rfl) (by kernel_rfl) (oE tbok [] 4 (by kernel_rfl) (oL [] rfl (by kernel_rfl) (fl_callFn rfl rfl Try.call108 rfl (by kernel_rfl) (by kernel_rfl) (itv_quotient_1_meets k8)) (oE tbok [] 5 (by kernel_rfl) (oL [] rfl (by kernel_rfl) (fl_callFn rfl rfl Try.call108 rfl (by kernel_rfl) (by kernel_rfl) (itv_quotient_1_meets k6)) (oE tbok [] 5 (by kernel_rfl) (oL [] rfl (by kernel_rfl) (fl_callFn rfl rfl Try.call108 rfl (by kernel_rfl) (by kernel_rfl) (itv_quotient_1_meets k4)) (oE tbok [] 5 (by kernel_rfl) (oL [] rfl (by kernel_rfl) (fl_callFn rfl rfl Try.call108 rfl (by kernel_rfl) (by kernel_rfl) (itv_quotient_1_meets k2)) (oE tbok [] 5 (by kernel_rfl) trivial))))))))) (sub_cons rfl (sub_cons rfl (sub_cons rfl (sub_cons rfl (sub_cons rfl (sub_cons rfl sub_nil)))))) wT ?_
  refine then_ ?_
  refine seq_ ?_
  refine region_ ?_
  refine R tbok 4 [39, 38, 37, 36, 11, 10, 9, 8, 7, 6] [(39, [.c (.pv (.int .i64 v8))]), (38, [.c (.pv (.int .i64 v6))]), (37, [.c (.pv (.int .i64 v4))]), (36, [.c (.pv (.int .i64 v2))]), (11, [.c (.pv (.int .i64 v8))]), (10, [.c (.pv (.int .i64 v6))]), (9, [.c (.pv (.int .i64 v4))]), (8, [.c (.pv (.int .i64 v2))]), (7, [.c (.pv (.int .i64 0))]), (6, [.c (.pv (.int .i64 0))])] (by kernel_rfl) ?_
  refine L rfl rfl (lt_min4 rfl rfl rfl rfl rfl) rfl ?_
  refine R tbok 4 [44, 43, 42, 41, 40, 7, 6] [(44, [.c (.pv (.int .i64 v8))]), (43, [.c (.pv (.int .i64 v6))]), (42, [.c (.pv (.int .i64 v4))]), (41, [.c (.pv (.int .i64 v2))]), (40, [.c (.pv (.int .i64 (min (min (min v2 v4) v6) v8)))]), (7, [.c (.pv (.int .i64 0))]), (6, [.c (.pv (.int .i64 0))])] (by kernel_rfl) ?_
  refine L rfl rfl (lt_max4 rfl rfl rfl rfl rfl) rfl ?_
  refine R tbok 2 [7, 6] [(7, [.c (.pv (.int .i64 (max (max (max v2 v4) v6) v8)))]), (6, [.c (.pv (.int .i64 (min (min (min v2 v4) v6) v8)))])] (by kernel_rfl) ?_
  refine ops_nil ?_
  refine then_ ?_
  refine ret_ ?_
  obtain rfl := retE h
  refine rwr (rw_ (.tmp rfl (.tmp rfl .nil)) ?_)
  refine w_none 0 .z ?_
  refine w_none 1 (.s .z) ?_
  refine w_cut 0 rfl rfl rfl rfl ?_
  exact wkE (by kernel_rfl) (by kernel_rfl)

theorem itv_Join_meets {a0 : itv_Itv} {a1 : itv_Itv} {r : itv_Itv} (h : itv_Join a0 a1 = some r) : MeetsV Try.prog GG 32 [.agg [.pv (.int .i64 a0.Lo), .pv (.int .i64 a0.Hi)], .agg [.pv (.int .i64 a1.Lo), .pv (.int .i64 a1.Hi)]] [.agg [.pv (.int .i64 r.Lo), .pv (.int .i64 r.Hi)]] := by
  refine MeetsS.toV (meetsW_of (st0 := []) (N := 25) r_itv_Join o_itv_Join r Try.func32 rfl rfl rfl (by dsimp only [argEnv]) rfl ?_) rfl
  unfold itv_Join at h
  refine seq_ ?_
  refine region_ ?_
  refine B rfl rfl (bir_box rfl rfl rfl) rfl rfl .z ?_
  refine B rfl rfl (bir_box rfl rfl rfl) rfl rfl (.s .z) ?_
  refine B rfl rfl (bir_alloc rfl z53 rfl rfl) rfl rfl (.s (.s .z)) ?_
  refine ops_nil ?_
  refine then_ ?_
  refine seq_ ?_
  refine block_ ?_
  refine seq_ ?_
  refine region_ ?_
  refine R tbok 1 [6, 4, 3, 2] [(6, [.agg [.pv (.int .i64 a0.Lo), .pv (.int .i64 a0.Hi)]]), (4, [.c (.box 2 0)]), (3, [.c (.box 1 0)]), (2, [.c (.box 0 0)])] (by kernel_rfl) ?_
  obtain ⟨v1, k1, h⟩ := bindE h
  refine C rfl rfl (fl_call rfl Try.call31 rfl (by kernel_rfl) (by kernel_rfl) (itv_Empty_meets k1)) rfl ?_
  refine R tbok 1 [5, 4, 3, 2] [(5, [.c (.pv (.bool v1))]), (4, [.c (.box 2 0)]), (3, [.c (.box 1 0)]), (2, [.c (.box 0 0)])] (by kernel_rfl) ?_
  refine ops_nil ?_
  refine then_ ?_
  refine cond_ (b := v1) rfl (fun k2 => ?_) (fun k2 => ?_)
  · have h := iteT h k2
    refine seq_ ?_
    refine region_ ?_
    refine R tbok 1 [8, 4, 3, 2] [(8, [.agg [.pv (.int .i64 a1.Lo), .pv (.int .i64 a1.Hi)]]), (4, [.c (.box 2 0)]), (3, [.c (.box 1 0)]), (2, [.c (.box 0 0)])] (by kernel_rfl) ?_
    obtain ⟨v2, k3, h⟩ := bindE h
    refine C rfl rfl (fl_call rfl Try.call33 rfl (by kernel_rfl) (by kernel_rfl) (itv_norm_meets k3)) rfl ?_
    refine S rfl rfl rfl ty53 (by decide) rfl rfl rfl rfl rfl (.all rfl) (.s (.s .z)) ?_
    refine ops_nil ?_
    refine then_ ?_
    refine ret_ ?_
    obtain rfl := retE h
    refine bR (tR (rwr (rw_ (.cellA (ys := [.pv (.int .i64 v2.Lo), .pv (.int .i64 v2.Hi)]) ty53 rfl rfl (by kernel_rfl) (by kernel_rfl) .nil) ?_)))
    refine w_none 0 .z ?_
    refine w_none 1 (.s .z) ?_
    refine w_none 2 (.s (.s .z)) ?_
    refine w_cut 0 rfl rfl rfl rfl ?_
    exact wkE (by kernel_rfl) (by kernel_rfl)
  · have h := iteF h k2
    refine seq_ ?_
    refine region_ ?_
    refine R tbok 1 [11, 4, 3, 2] [(11, [.agg [.pv (.int .i64 a1.Lo), .pv (.int .i64 a1.Hi)]]), (4, [.c (.box 2 0)]), (3, [.c (.box 1 0)]), (2, [.c (.box 0 0)])] (by kernel_rfl) ?_
    obtain ⟨v3, k4, h⟩ := bindE h
    refine C rfl rfl (fl_call rfl Try.call31 rfl (by kernel_rfl) (by kernel_rfl) (itv_Empty_meets k4)) rfl ?_
    refine R tbok 1 [10, 4, 3, 2] [(10, [.c (.pv (.bool v3))]), (4, [.c (.box 2 0)]), (3, [.c (.box 1 0)]), (2, [.c (.box 0 0)])] (by kernel_rfl) ?_
    refine ops_nil ?_
    refine then_ ?_
    refine cond_ (b := v3) rfl (fun k5 => ?_) (fun k5 => ?_)
    · have h := iteT h k5
      refine seq_ ?_
      refine region_ ?_
      refine R tbok 1 [13, 4, 3, 2] [(13, [.agg [.pv (.int .i64 a0.Lo), .pv (.int .i64 a0.Hi)]]), (4, [.c (.box 2 0)]), (3, [.c (.box 1 0)]), (2, [.c (.box 0 0)])] (by kernel_rfl) ?_
      refine S rfl rfl rfl ty53 (by decide) rfl rfl rfl rfl rfl (.all rfl) (.s (.s .z)) ?_
      refine ops_nil ?_
      refine then_ ?_
      refine ret_ ?_
      obtain rfl := retE h
      refine bR (tR (rwr (rw_ (.cellA (ys := [.pv (.int .i64 a0.Lo), .pv (.int .i64 a0.Hi)]) ty53 rfl rfl (by kernel_rfl) (by kernel_rfl) .nil) ?_)))
      refine w_none 0 .z ?_
      refine w_none 1 (.s .z) ?_
      refine w_none 2 (.s (.s .z)) ?_
      refine w_cut 0 rfl rfl rfl rfl ?_
      exact wkE (by kernel_rfl) (by kernel_rfl)
    · have h := iteF h k5
      refine skip_ ?_
      refine bN ?_
      refine then_ ?_
      refine seq_ ?_
      refine region_ ?_
      refine R tbok 4 [17, 15, 4, 3, 2] [(17, [.c (.pv (.int .i64 a1.Lo))]), (15, [.c (.pv (.int .i64 a0.Lo))]), (4, [.c (.box 2 0)]), (3, [.c (.box 1 0)]), (2, [.c (.box 0 0)])] (by kernel_rfl) ?_
      refine L rfl rfl (lt_min2 rfl rfl rfl) rfl ?_
      refine R tbok 4 [22, 20, 18, 4] [(22, [.c (.pv (.int .i64 a1.Hi))]), (20, [.c (.pv (.int .i64 a0.Hi))]), (18, [.c (.pv (.int .i64 (min a0.Lo a1.Lo)))]), (4, [.c (.box 2 0)])] (by kernel_rfl) ?_
      refine L rfl rfl (lt_max2 rfl rfl rfl) rfl ?_
      refine L rfl rfl (lt_build (cs := [.pv (.int .i64 (min a0.Lo a1.Lo)), .pv (.int .i64 (max a0.Hi a1.Hi))]) rfl st53 rfl (by kernel_rfl)) rfl ?_
      refine S rfl rfl rfl ty53 (by decide) rfl rfl rfl rfl rfl (.all rfl) (.s (.s .z)) ?_
      refine ops_nil ?_
      refine then_ ?_
      refine ret_ ?_
      obtain rfl := retE h
      refine rwr (rw_ (.cellA (ys := [.pv (.int .i64 (min a0.Lo a1.Lo)), .pv (.int .i64 (max a0.Hi a1.Hi))]) ty53 rfl rfl (by kernel_rfl) (by kernel_rfl) .nil) ?_)
      refine w_none 0 .z ?_
      refine w_none 1 (.s .z) ?_
      refine w_none 2 (.s (.s .z)) ?_
      refine w_cut 0 rfl rfl rfl rfl ?_
      exact wkE (by kernel_rfl) (by kernel_rfl)

theorem itv_quotient_meets {a0 : itv_Itv} {a1 : itv_Itv} {r : (itv_Itv × itv_Errs)} (h : itv_quotient a0 a1 = some r) : MeetsV Try.prog GG 107 [.agg [.pv (.int .i64 a0.Lo), .pv (.int .i64 a0.Hi)], .agg [.pv (.int .i64 a1.Lo), .pv (.int .i64 a1.Hi)]] [.agg [.pv (.int .i64 r.1.Lo), .pv (.int .i64 r.1.Hi)], .agg [.pv (.bool r.2.Overflow), .pv (.bool r.2.DivZero)]] := by
  refine MeetsS.toV (meetsW_of (st0 := []) (N := 53) r_itv_quotient o_itv_quotient r Try.func107 rfl rfl rfl (by dsimp only [argEnv]) rfl ?_) rfl
  unfold itv_quotient at h
  refine seq_ ?_
  refine region_ ?_
  refine B rfl rfl (bir_box rfl rfl rfl) rfl rfl .z ?_
  refine B rfl rfl (bir_box rfl rfl rfl) rfl rfl (.s .z) ?_
  refine B rfl rfl (bir_alloc rfl z53 rfl rfl) rfl rfl (.s (.s .z)) ?_
  refine B rfl rfl (bir_alloc rfl z120 rfl rfl) rfl rfl (.s (.s (.s .z))) ?_
  refine ops_nil ?_
  refine then_ ?_
  refine seq_ ?_
  refine region_ ?_
  obtain ⟨v1, k1, h⟩ := bindE h
  refine C rfl rfl (fl_call rfl Try.call22 rfl (by kernel_rfl) (by kernel_rfl) (itv_None_meets k1)) rfl ?_
  refine B rfl rfl (bir_alloc rfl z53 rfl rfl) rfl rfl (.s (.s (.s (.s .z)))) ?_
  refine S rfl rfl rfl ty53 (by decide) rfl rfl rfl rfl rfl (.all rfl) (.s (.s (.s (.s .z)))) ?_
  refine R tbok 1 [7, 6, 5, 4, 3, 2] [(7, [.c (.pv (.bool false))]), (6, [.c (.box 4 0)]), (5, [.c (.box 3 0)]), (4, [.c (.box 2 0)]), (3, [.c (.box 1 0)]), (2, [.c (.box 0 0)])] (by kernel_rfl) ?_
  refine ops_nil ?_
  refine then_ ?_
  refine seq_ ?_
  refine seq_ ?_
  refine drawn_ mixed ?_
  refine dl (t := 15) 0 [.agg [.pv (.int .i64 a1.Lo), .pv (.int .i64 a1.Hi)]] rfl ?_
  obtain ⟨v3, k3, h⟩ := bindE h
  refine dl (t := 16) 1 [.agg [.pv (.int .i64 v3.Lo), .pv (.int .i64 v3.Hi)]] rfl ?_
  obtain ⟨v5, k5, h⟩ := bindE h
  refine dl (t := 17) 2 [.agg [.pv (.int .i64 v5.Lo), .pv (.int .i64 v5.Hi)]] rfl ?_
  refine dl (t := 18) 3 [.agg [.pv (.int .i64 a1.Lo), .pv (.int .i64 a1.Hi)]] rfl ?_
  obtain ⟨v7, k7, h⟩ := bindE h
  refine dl (t := 19) 4 [.agg [.pv (.int .i64 v7.Lo), .pv (.int .i64 v7.Hi)]] rfl ?_
  obtain ⟨v9, k9, h⟩ := bindE h
  refine dl (t := 20) 5 [.agg [.pv (.int .i64 v9.Lo), .pv (.int .i64 v9.Hi)]] rfl ?_
  refine dl (t := 21) 6 [.c (.pv (.sl (List.map e_itv_Itv [v5, v9])))] rfl ?_
  refine dl (t := 22) 7 [.c (.pv (.int .i64 ([v5, v9].length : Int)))] rfl ?_
  refine dl (t := 23) 8 [.c (.pv (.int .i64 0))] rfl ?_
  refine d_endS (env2 := [(23, [.c (.pv (.int .i64 0))]), (22, [.c (.pv (.int .i64 ([v5, v9].length : Int)))]), (21, [.c (.pv (.sl (List.map e_itv_Itv [v5, v9])))]), (7, [.c (.pv (.bool false))]), (6, [.c (.box 4 0)]), (5, [.c (.box 3 0)]), (4, [.c (.box 2 0)]), (2, [.c (.box 0 0)])]) (wm [0, 0, 3, 0, 7, 31, 63, 127, 0]) (by kernel_rfl) (by kernel_rfl) (by kernel_rfl) (oE tbok [] 1 (by kernel_rfl) (oL [] rfl (by kernel_rfl) (fl_lt (len_sl (e := e_itv_Itv) rfl u40 rfl)) (oL [] rfl (by kernel_rfl) (fl_slice (List.map e_itv_Itv [v5, v9]) rfl sl40 rfl rfl rfl rfl rfl rfl rfl) (oL [] rfl (by kernel_rfl) (fl_call rfl Try.call81 rfl (by kernel_rfl) (by kernel_rfl) (itv_Meet_meets k9)) (oL [] rfl (by kernel_rfl) (fl_call rfl Try.call17 rfl (by kernel_rfl) (by kernel_rfl) (itv_Of_meets k7)) (oE tbok [] 1 (by kernel_rfl) (oL [] rfl (by kernel_rfl) (fl_call rfl Try.call81 rfl (by kernel_rfl) (by kernel_rfl) (itv_Meet_meets k5)) (oL [] rfl (by kernel_rfl) (fl_call rfl Try.call17 rfl (by kernel_rfl) (by kernel_rfl) (itv_Of_meets k3)) (oE tbok [] 1 (by kernel_rfl) trivial))))))))) (sub_cons rfl (sub_cons rfl (sub_cons rfl (sub_cons rfl (sub_cons rfl (sub_cons rfl (sub_cons rfl (sub_cons rfl sub_nil)))))))) wT ?_
  refine then_ ?_
  refine lp_ (Qr := RW Try.prog GG Try.f107 0 r_itv_quotient o_itv_quotient) (itv_quotient_l1 a0 v5 v9) (fun (x1 : (Bool × Int × Int × Int)) => (⟨53, 0, [(2, [.c (.box 0 0)]), (4, [.c (.box 2 0)]), (5, [.c (.box 3 0)]), (6, [.c (.box 4 0)]), (7, [.c (.pv (.bool x1.1))]), (21, [.c (.pv (.sl (List.map e_itv_Itv [v5, v9])))]), (22, [.c (.pv (.int .i64 ([v5, v9].length : Int)))]), (23, [.c (.pv (.int .i64 x1.2.1))])], [some (.box true 53 [.pv (.int .i64 a0.Lo), .pv (.int .i64 a0.Hi)]), none, some (.box true 53 [.pv (.int .i64 0), .pv (.int .i64 0)]), some (.box true 120 [.pv (.bool false), .pv (.bool false)]), some (.box true 53 [.pv (.int .i64 x1.2.2.1), .pv (.int .i64 x1.2.2.2)])]⟩ : Sx)) (fun (j1 : (Bool × Int × Int)) => (⟨53, 0, [(4, [.c (.box 2 0)]), (5, [.c (.box 3 0)]), (6, [.c (.box 4 0)]), (7, [.c (.pv (.bool j1.1))])], [none, none, some (.box true 53 [.pv (.int .i64 0), .pv (.int .i64 0)]), some (.box true 120 [.pv (.bool false), .pv (.bool false)]), some (.box true 53 [.pv (.int .i64 j1.2.1), .pv (.int .i64 j1.2.2)])]⟩ : Sx)) (false, 0, v1.Lo, v1.Hi) RW.only h wT ?_ (fun x1 o h => ?_) (fun r h s' hs => ?_) (fun j1 h => ?_)
  · refine w_sub (env' := [(2, [.c (.box 0 0)]), (4, [.c (.box 2 0)]), (5, [.c (.box 3 0)]), (6, [.c (.box 4 0)]), (7, [.c (.pv (.bool false))]), (21, [.c (.pv (.sl (List.map e_itv_Itv [v5, v9])))]), (22, [.c (.pv (.int .i64 ([v5, v9].length : Int)))]), (23, [.c (.pv (.int .i64 0))])]) (sub_cons rfl (sub_cons rfl (sub_cons rfl (sub_cons rfl (sub_cons rfl (sub_cons rfl (sub_cons rfl (sub_cons rfl sub_nil)))))))) ?_
    refine w_none 1 (.s .z) ?_
    exact wkE (by kernel_rfl) (by kernel_rfl)
  · unfold itv_quotient_l1 at h
    refine seq_ ?_
    refine region_ ?_
    refine R tbok 1 [24, 2, 4, 5, 6, 7, 21, 22, 23] [(24, [.c (.pv (.bool (decide (x1.2.1 < ([v5, v9].length : Int)))))]), (2, [.c (.box 0 0)]), (4, [.c (.box 2 0)]), (5, [.c (.box 3 0)]), (6, [.c (.box 4 0)]), (7, [.c (.pv (.bool x1.1))]), (21, [.c (.pv (.sl (List.map e_itv_Itv [v5, v9])))]), (22, [.c (.pv (.int .i64 ([v5, v9].length : Int)))]), (23, [.c (.pv (.int .i64 x1.2.1))])] (by kernel_rfl) ?_
    refine ops_nil ?_
    refine then_ ?_
    refine seq_ ?_
    refine cond_ (b := (decide (x1.2.1 < ([v5, v9].length : Int)))) rfl (fun k10 => ?_) (fun k10 => ?_)
    · have h := iteT h k10
      refine skip_ ?_
      refine then_ ?_
      refine seq_ ?_
      refine jn_ (fun (j2 : (Bool × Int × Int)) => (⟨53, 0, [(2, [.c (.box 0 0)]), (4, [.c (.box 2 0)]), (5, [.c (.box 3 0)]), (6, [.c (.box 4 0)]), (7, [.c (.pv (.bool j2.1))]), (21, [.c (.pv (.sl (List.map e_itv_Itv [v5, v9])))]), (22, [.c (.pv (.int .i64 ([v5, v9].length : Int)))]), (23, [.c (.pv (.int .i64 x1.2.1))])], [some (.box true 53 [.pv (.int .i64 a0.Lo), .pv (.int .i64 a0.Hi)]), none, some (.box true 53 [.pv (.int .i64 0), .pv (.int .i64 0)]), some (.box true 120 [.pv (.bool false), .pv (.bool false)]), some (.box true 53 [.pv (.int .i64 j2.2.1), .pv (.int .i64 j2.2.2)])]⟩ : Sx)) h wT (fun o h => ?_) (fun j2 h => ?_)
      · refine block_ ?_
        refine seq_ ?_
        refine region_ ?_
        obtain ⟨v10, k11, h⟩ := bindE h
        refine L rfl rfl (ia_sl (e := e_itv_Itv) (y := v10) rfl u40 ty53 rfl rfl k11 rfl) rfl ?_
        refine R tbok 1 [26, 2, 4, 5, 6, 7, 21, 22, 23] [(26, [.agg [.pv (.int .i64 v10.Lo), .pv (.int .i64 v10.Hi)]]), (2, [.c (.box 0 0)]), (4, [.c (.box 2 0)]), (5, [.c (.box 3 0)]), (6, [.c (.box 4 0)]), (7, [.c (.pv (.bool x1.1))]), (21, [.c (.pv (.sl (List.map e_itv_Itv [v5, v9])))]), (22, [.c (.pv (.int .i64 ([v5, v9].length : Int)))]), (23, [.c (.pv (.int .i64 x1.2.1))])] (by kernel_rfl) ?_
        refine B rfl rfl (bir_alloc rfl z53 rfl rfl) rfl rfl (.s (.s (.s (.s (.s .z))))) ?_
        refine S rfl rfl rfl ty53 (by decide) rfl rfl rfl rfl rfl (.all rfl) (.s (.s (.s (.s (.s .z))))) ?_
        refine ops_nil ?_
        refine then_ ?_
        refine seq_ ?_
        refine seq_ ?_
        refine region_ ?_
        refine R tbok 1 [27, 9, 2, 4, 5, 6, 7, 21, 22, 23] [(27, [.agg [.pv (.int .i64 v10.Lo), .pv (.int .i64 v10.Hi)]]), (9, [.c (.box 5 0)]), (2, [.c (.box 0 0)]), (4, [.c (.box 2 0)]), (5, [.c (.box 3 0)]), (6, [.c (.box 4 0)]), (7, [.c (.pv (.bool x1.1))]), (21, [.c (.pv (.sl (List.map e_itv_Itv [v5, v9])))]), (22, [.c (.pv (.int .i64 ([v5, v9].length : Int)))]), (23, [.c (.pv (.int .i64 x1.2.1))])] (by kernel_rfl) ?_
        obtain ⟨v11, k12, h⟩ := bindE h
        refine C rfl rfl (fl_call rfl Try.call31 rfl (by kernel_rfl) (by kernel_rfl) (itv_Empty_meets k12)) rfl ?_
        refine ops_nil ?_
        refine then_ ?_
        refine cond_ (b := v11) rfl (fun k13 => ?_) (fun k13 => ?_)
        · have h := iteT h k13
          refine exit_ ?_
          refine tX ?_
          refine bH ?_
          obtain rfl := retE h
          refine mN ?_
          refine w_sub (env' := [(2, [.c (.box 0 0)]), (4, [.c (.box 2 0)]), (5, [.c (.box 3 0)]), (6, [.c (.box 4 0)]), (7, [.c (.pv (.bool x1.1))]), (21, [.c (.pv (.sl (List.map e_itv_Itv [v5, v9])))]), (22, [.c (.pv (.int .i64 ([v5, v9].length : Int)))]), (23, [.c (.pv (.int .i64 x1.2.1))])]) (sub_cons rfl (sub_cons rfl (sub_cons rfl (sub_cons rfl (sub_cons rfl (sub_cons rfl (sub_cons rfl (sub_cons rfl sub_nil)))))))) ?_
          refine w_cut 5 rfl rfl rfl rfl ?_
          exact wkE (by kernel_rfl) (by kernel_rfl)
        · have h := iteF h k13
          refine skip_ ?_
          refine then_ ?_
          refine seq_ ?_
          refine region_ ?_
          refine R tbok 2 [31, 30, 2, 4, 5, 6, 7, 21, 22, 23] [(31, [.agg [.pv (.int .i64 v10.Lo), .pv (.int .i64 v10.Hi)]]), (30, [.agg [.pv (.int .i64 a0.Lo), .pv (.int .i64 a0.Hi)]]), (2, [.c (.box 0 0)]), (4, [.c (.box 2 0)]), (5, [.c (.box 3 0)]), (6, [.c (.box 4 0)]), (7, [.c (.pv (.bool x1.1))]), (21, [.c (.pv (.sl (List.map e_itv_Itv [v5, v9])))]), (22, [.c (.pv (.int .i64 ([v5, v9].length : Int)))]), (23, [.c (.pv (.int .i64 x1.2.1))])] (by kernel_rfl) ?_
          obtain ⟨v12, k14, h⟩ := bindE h
          refine C rfl rfl (fl_call rfl Try.call101 rfl (by kernel_rfl) (by kernel_rfl) (itv_corners_itv_quotient_1_meets k14)) rfl ?_
          refine R tbok 5 [11, 10, 2, 4, 5, 6, 7, 21, 22, 23] [(11, [.c (.pv (.int .i64 v12.2))]), (10, [.c (.pv (.int .i64 v12.1))]), (2, [.c (.box 0 0)]), (4, [.c (.box 2 0)]), (5, [.c (.box 3 0)]), (6, [.c (.box 4 0)]), (7, [.c (.pv (.bool x1.1))]), (21, [.c (.pv (.sl (List.map e_itv_Itv [v5, v9])))]), (22, [.c (.pv (.int .i64 ([v5, v9].length : Int)))]), (23, [.c (.pv (.int .i64 x1.2.1))])] (by kernel_rfl) ?_
          refine ops_nil ?_
          refine then_ ?_
          refine seq_ ?_
          refine region_ ?_
          refine R tbok 2 [37, 36, 2, 4, 5, 6, 7, 21, 22, 23] [(37, [.c (.pv (.int .i64 v12.2))]), (36, [.c (.pv (.int .i64 v12.1))]), (2, [.c (.box 0 0)]), (4, [.c (.box 2 0)]), (5, [.c (.box 3 0)]), (6, [.c (.box 4 0)]), (7, [.c (.pv (.bool x1.1))]), (21, [.c (.pv (.sl (List.map e_itv_Itv [v5, v9])))]), (22, [.c (.pv (.int .i64 ([v5, v9].length : Int)))]), (23, [.c (.pv (.int .i64 x1.2.1))])] (by kernel_rfl) ?_
          obtain ⟨v13, k15, h⟩ := bindE h
          refine C rfl rfl (fl_call rfl Try.call100 rfl (by kernel_rfl) (by kernel_rfl) (itv_cut_meets k15)) rfl ?_
          refine R tbok 3 [40, 39, 2, 4, 5, 6, 7, 21, 22, 23] [(40, [.agg [.pv (.bool v13.2.Overflow), .pv (.bool v13.2.DivZero)]]), (39, [.agg [.pv (.int .i64 v13.1.Lo), .pv (.int .i64 v13.1.Hi)]]), (2, [.c (.box 0 0)]), (4, [.c (.box 2 0)]), (5, [.c (.box 3 0)]), (6, [.c (.box 4 0)]), (7, [.c (.pv (.bool x1.1))]), (21, [.c (.pv (.sl (List.map e_itv_Itv [v5, v9])))]), (22, [.c (.pv (.int .i64 ([v5, v9].length : Int)))]), (23, [.c (.pv (.int .i64 x1.2.1))])] (by kernel_rfl) ?_
          refine B rfl rfl (bir_alloc rfl z53 rfl rfl) rfl rfl (.s (.s (.s (.s (.s (.s .z)))))) ?_
          refine B rfl rfl (bir_alloc rfl z120 rfl rfl) rfl rfl (.s (.s (.s (.s (.s (.s (.s .z))))))) ?_
          refine S rfl rfl rfl ty53 (by decide) rfl rfl rfl rfl rfl (.all rfl) (.s (.s (.s (.s (.s (.s .z)))))) ?_
          refine S rfl rfl rfl ty120 (by decide) rfl rfl rfl rfl rfl (.all rfl) (.s (.s (.s (.s (.s (.s (.s .z))))))) ?_
          refine ops_nil ?_
          refine then_ ?_
          refine drawn_ mixed ?_
          refine dl (t := 41) 0 [.agg [.pv (.int .i64 x1.2.2.1), .pv (.int .i64 x1.2.2.2)]] rfl ?_
          refine dl (t := 42) 1 [.agg [.pv (.int .i64 v13.1.Lo), .pv (.int .i64 v13.1.Hi)]] rfl ?_
          obtain ⟨v15, k17, h⟩ := bindE h
          refine dl (t := 43) 2 [.agg [.pv (.int .i64 v15.Lo), .pv (.int .i64 v15.Hi)]] rfl ?_
          refine dl (t := 44) 3 [.c (.pv (.bool x1.1))] rfl ?_
          refine dl (t := 45) 4 [.c (.pv (.bool x1.1))] rfl ?_
          refine (tf x1.1).elim (fun k18 => ?_) (fun k18 => ?_)
          · have h := iteT h k18
            refine ds (t := 46) 5 rfl ?_
            refine ds (t := 47) 6 rfl ?_
            refine dl (t := 48) 7 [.c (.pv (.bool true))] rfl ?_
            refine d_store (wm [0, 0, 3, 0, 15, 31, 63, 127, 31, 511]) 8 rfl (by kernel_rfl) (by kernel_rfl) (by kernel_rfl) (by kernel_rfl) (by kernel_rfl) (gi0 rfl) (oL [] rfl (by kernel_rfl) (fl_lt (lt_pickT rfl rfl k18 rfl)) (owF (by kernel_rfl) (fo_s [] rfl rfl rfl (by kernel_rfl) (by kernel_rfl) (by kernel_rfl) (gi1 rfl rfl rfl (beF k18))) (owF (by kernel_rfl) (fo_s [] rfl rfl rfl (by kernel_rfl) (by kernel_rfl) (by kernel_rfl) (gi1 rfl rfl rfl (beF k18))) (oE tbok [] 2 (by kernel_rfl) (oL [] rfl (by kernel_rfl) (fl_call rfl Try.call32 rfl (by kernel_rfl) (by kernel_rfl) (itv_Join_meets k17)) (oE tbok [] 2 (by kernel_rfl) trivial)))))) rfl rfl ty53 rfl rfl rfl rfl rfl rfl (putE 2 (.all rfl) rfl (by decide)) (SetAt.eq (.s (.s (.s (.s .z))))) ?_
            refine dl (t := 7) 9 [.c (.pv (.bool true))] rfl ?_
            refine d_endS (env2 := [(7, [.c (.pv (.bool true))]), (2, [.c (.box 0 0)]), (4, [.c (.box 2 0)]), (5, [.c (.box 3 0)]), (6, [.c (.box 4 0)]), (21, [.c (.pv (.sl (List.map e_itv_Itv [v5, v9])))]), (22, [.c (.pv (.int .i64 ([v5, v9].length : Int)))]), (23, [.c (.pv (.int .i64 x1.2.1))])]) (wm [0, 0, 3, 0, 15, 31, 63, 127, 31, 511]) (by kernel_rfl) (by kernel_rfl) (by kernel_rfl) (oE tbok [] 1 (by kernel_rfl) (oN 1 (by kernel_rfl) (oL [] rfl (by kernel_rfl) (fl_lt (lt_pickT rfl rfl k18 rfl)) (owF (by kernel_rfl) (fo_s [] rfl rfl rfl (by kernel_rfl) (by kernel_rfl) (by kernel_rfl) (gi1 rfl rfl rfl (beF k18))) (owF (by kernel_rfl) (fo_s [] rfl rfl rfl (by kernel_rfl) (by kernel_rfl) (by kernel_rfl) (gi1 rfl rfl rfl (beF k18))) (oN 5 (by kernel_rfl) trivial)))))) (sub_cons rfl (sub_cons rfl (sub_cons rfl (sub_cons rfl (sub_cons rfl (sub_cons rfl (sub_cons rfl (sub_cons rfl sub_nil)))))))) (wB wM) ?_
            refine bN ?_
            obtain rfl := retE h
            refine mN ?_
            refine w_sub (env' := [(2, [.c (.box 0 0)]), (4, [.c (.box 2 0)]), (5, [.c (.box 3 0)]), (6, [.c (.box 4 0)]), (7, [.c (.pv (.bool true))]), (21, [.c (.pv (.sl (List.map e_itv_Itv [v5, v9])))]), (22, [.c (.pv (.int .i64 ([v5, v9].length : Int)))]), (23, [.c (.pv (.int .i64 x1.2.1))])]) (sub_cons rfl (sub_cons rfl (sub_cons rfl (sub_cons rfl (sub_cons rfl (sub_cons rfl (sub_cons rfl (sub_cons rfl sub_nil)))))))) ?_
            refine w_cut 5 rfl rfl rfl rfl ?_
            exact wkE (by kernel_rfl) (by kernel_rfl)
          · have h := iteF h k18
            refine dl (t := 46) 5 [.c (.box 7 0)] rfl ?_
            refine dl (t := 47) 6 [.c (.pv (.bool v13.2.Overflow))] rfl ?_
            refine dl (t := 48) 7 [.c (.pv (.bool v13.2.Overflow))] rfl ?_
            refine d_store (wm [0, 0, 3, 0, 15, 31, 63, 127, 31, 511]) 8 rfl (by kernel_rfl) (by kernel_rfl) (by kernel_rfl) (by kernel_rfl) (by kernel_rfl) (gi0 rfl) (oL [] rfl (by kernel_rfl) (fl_lt (lt_pickF rfl rfl k18 rfl)) (owF (by kernel_rfl) (fo_l [] rfl rfl rfl (by kernel_rfl) (by kernel_rfl) (by kernel_rfl) (gi1 rfl rfl rfl (beT k18)) (fl_lt (lt_load_box rfl ty4 rfl rfl rfl))) (owF (by kernel_rfl) (fo_l [] rfl rfl rfl (by kernel_rfl) (by kernel_rfl) (by kernel_rfl) (gi1 rfl rfl rfl (beT k18)) (fl_lt (lt_fa_box rfl f120_0 ty4 (by decide) rfl))) (oE tbok [] 2 (by kernel_rfl) (oL [] rfl (by kernel_rfl) (fl_call rfl Try.call32 rfl (by kernel_rfl) (by kernel_rfl) (itv_Join_meets k17)) (oE tbok [] 2 (by kernel_rfl) trivial)))))) rfl rfl ty53 rfl rfl rfl rfl rfl rfl (putE 2 (.all rfl) rfl (by decide)) (SetAt.eq (.s (.s (.s (.s .z))))) ?_
            refine dl (t := 7) 9 [.c (.pv (.bool v13.2.Overflow))] rfl ?_
            refine d_endS (env2 := [(7, [.c (.pv (.bool v13.2.Overflow))]), (2, [.c (.box 0 0)]), (4, [.c (.box 2 0)]), (5, [.c (.box 3 0)]), (6, [.c (.box 4 0)]), (21, [.c (.pv (.sl (List.map e_itv_Itv [v5, v9])))]), (22, [.c (.pv (.int .i64 ([v5, v9].length : Int)))]), (23, [.c (.pv (.int .i64 x1.2.1))])]) (wm [0, 0, 3, 0, 15, 31, 63, 127, 31, 511]) (by kernel_rfl) (by kernel_rfl) (by kernel_rfl) (oE tbok [] 1 (by kernel_rfl) (oN 1 (by kernel_rfl) (oL [] rfl (by kernel_rfl) (fl_lt (lt_pickF rfl rfl k18 rfl)) (owF (by kernel_rfl) (fo_l [] rfl rfl rfl (by kernel_rfl) (by kernel_rfl) (by kernel_rfl) (gi1 rfl rfl rfl (beT k18)) (fl_lt (lt_load_box rfl ty4 rfl rfl rfl))) (owF (by kernel_rfl) (fo_l [] rfl rfl rfl (by kernel_rfl) (by kernel_rfl) (by kernel_rfl) (gi1 rfl rfl rfl (beT k18)) (fl_lt (lt_fa_box rfl f120_0 ty4 (by decide) rfl))) (oN 5 (by kernel_rfl) trivial)))))) (sub_cons rfl (sub_cons rfl (sub_cons rfl (sub_cons rfl (sub_cons rfl (sub_cons rfl (sub_cons rfl (sub_cons rfl sub_nil)))))))) (wB wM) ?_
            refine bN ?_
            obtain rfl := retE h
            refine mN ?_
            refine w_sub (env' := [(2, [.c (.box 0 0)]), (4, [.c (.box 2 0)]), (5, [.c (.box 3 0)]), (6, [.c (.box 4 0)]), (7, [.c (.pv (.bool v13.2.Overflow))]), (21, [.c (.pv (.sl (List.map e_itv_Itv [v5, v9])))]), (22, [.c (.pv (.int .i64 ([v5, v9].length : Int)))]), (23, [.c (.pv (.int .i64 x1.2.1))])]) (sub_cons rfl (sub_cons rfl (sub_cons rfl (sub_cons rfl (sub_cons rfl (sub_cons rfl (sub_cons rfl (sub_cons rfl sub_nil)))))))) ?_
            refine w_cut 5 rfl rfl rfl rfl ?_
            exact wkE (by kernel_rfl) (by kernel_rfl)
      · refine then_ ?_
        refine region_ ?_
        refine R tbok 2 [23, 2, 4, 5, 6, 7, 21, 22] [(23, [.c (.pv (.int .i64 (IntKind.i64.wrap (x1.2.1 + 1))))]), (2, [.c (.box 0 0)]), (4, [.c (.box 2 0)]), (5, [.c (.box 3 0)]), (6, [.c (.box 4 0)]), (7, [.c (.pv (.bool j2.1))]), (21, [.c (.pv (.sl (List.map e_itv_Itv [v5, v9])))]), (22, [.c (.pv (.int .i64 ([v5, v9].length : Int)))])] (by kernel_rfl) ?_
        refine ops_nil ?_
        obtain rfl := retE h
        refine lN ?_
        refine w_sub (env' := [(2, [.c (.box 0 0)]), (4, [.c (.box 2 0)]), (5, [.c (.box 3 0)]), (6, [.c (.box 4 0)]), (7, [.c (.pv (.bool j2.1))]), (21, [.c (.pv (.sl (List.map e_itv_Itv [v5, v9])))]), (22, [.c (.pv (.int .i64 ([v5, v9].length : Int)))]), (23, [.c (.pv (.int .i64 (IntKind.i64.wrap (x1.2.1 + 1))))])]) (sub_cons rfl (sub_cons rfl (sub_cons rfl (sub_cons rfl (sub_cons rfl (sub_cons rfl (sub_cons rfl (sub_cons rfl sub_nil)))))))) ?_
        exact wkE (by kernel_rfl) (by kernel_rfl)
    · have h := iteF h k10
      refine exit_ ?_
      refine tX ?_
      obtain rfl := retE h
      refine lX ?_
      refine w_sub (env' := [(4, [.c (.box 2 0)]), (5, [.c (.box 3 0)]), (6, [.c (.box 4 0)]), (7, [.c (.pv (.bool x1.1))])]) (sub_cons rfl (sub_cons rfl (sub_cons rfl (sub_cons rfl sub_nil)))) ?_
      refine w_none 0 .z ?_
      exact wkE (by kernel_rfl) (by kernel_rfl)
  · cases h
  · have h := elimR h
    refine then_ ?_
    refine seq_ ?_
    refine region_ ?_
    refine R tbok 2 [51, 50, 4, 5] [(51, [.c (.pv (.bool j1.1))]), (50, [.agg [.pv (.int .i64 j1.2.1), .pv (.int .i64 j1.2.2)]]), (4, [.c (.box 2 0)]), (5, [.c (.box 3 0)])] (by kernel_rfl) ?_
    refine L rfl rfl (lt_build (cs := [.pv (.bool j1.1), .pv (.bool false)]) rfl st120 rfl (by kernel_rfl)) rfl ?_
    refine S rfl rfl rfl ty53 (by decide) rfl rfl rfl rfl rfl (.all rfl) (.s (.s .z)) ?_
    refine S rfl rfl rfl ty120 (by decide) rfl rfl rfl rfl rfl (.all rfl) (.s (.s (.s .z))) ?_
    refine ops_nil ?_
    refine then_ ?_
    refine ret_ ?_
    obtain rfl := retE h
    refine rwr (rw_ (.cellA (ys := [.pv (.int .i64 j1.2.1), .pv (.int .i64 j1.2.2)]) ty53 rfl rfl (by kernel_rfl) (by kernel_rfl) (.cellA (ys := [.pv (.bool j1.1), .pv (.bool false)]) ty120 rfl rfl (by kernel_rfl) (by kernel_rfl) .nil)) ?_)
    refine w_none 2 (.s (.s .z)) ?_
    refine w_none 3 (.s (.s (.s .z))) ?_
    refine w_none 4 (.s (.s (.s (.s .z)))) ?_
    refine w_cut 0 rfl rfl rfl rfl ?_
    exact wkE (by kernel_rfl) (by kernel_rfl)
end Go.Proofs.Ytbebnddalipfhaa.Abs
