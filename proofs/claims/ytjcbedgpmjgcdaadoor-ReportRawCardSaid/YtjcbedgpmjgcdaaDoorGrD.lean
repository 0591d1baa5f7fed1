/- Gr: the functions, told by typed values. -/
import Derived.Test.YtjcbedgpmjgcdaaDoorHb
namespace Go.Proofs.YtjcbedgpmjgcdaaDoor.Abs
open Go Go.RowKit
set_option linter.unusedVariables false

structure r08_Itv where
  Lo : Int
  Hi : Int
structure fix_Alarm where
  Proc : Int
  Edge : Int
  Kind : Int
structure itv_Itv where
  Lo : Int
  Hi : Int
structure zone_Zone where
  N : Int
  None : Bool
  D : (Nat → (Nat → Int))
structure num_Num where
  None : Bool
  I : (List itv_Itv)
  Z : zone_Zone
structure trans_State where
  N : num_Num
  Counts : (List itv_Itv)
  Rules : (List Int)
structure queue_Elem where
  Len : itv_Itv
  Vals : (List itv_Itv)
def e_str (x : ByteArray) : List PV := [.str x]
structure outer_Result where
  At : (List (List trans_State))
  Elems : (List queue_Elem)
  Alarms : (List fix_Alarm)
  Steps : Int
def e_itv_Itv (x : itv_Itv) : List PV := [.int .i64 x.Lo, .int .i64 x.Hi]
def e_rule_Set (x : Int) : List PV := [.int .u8 x]
def e_trans_State (x : trans_State) : List PV := [.bool x.N.None, .sl (List.map e_itv_Itv x.N.I), .int .i64 x.N.Z.N, .bool x.N.Z.None, .int .i64 ((x.N.Z.D 0) 0), .int .i64 ((x.N.Z.D 0) 1), .int .i64 ((x.N.Z.D 0) 2), .int .i64 ((x.N.Z.D 0) 3), .int .i64 ((x.N.Z.D 0) 4), .int .i64 ((x.N.Z.D 0) 5), .int .i64 ((x.N.Z.D 0) 6), .int .i64 ((x.N.Z.D 1) 0), .int .i64 ((x.N.Z.D 1) 1), .int .i64 ((x.N.Z.D 1) 2), .int .i64 ((x.N.Z.D 1) 3), .int .i64 ((x.N.Z.D 1) 4), .int .i64 ((x.N.Z.D 1) 5), .int .i64 ((x.N.Z.D 1) 6), .int .i64 ((x.N.Z.D 2) 0), .int .i64 ((x.N.Z.D 2) 1), .int .i64 ((x.N.Z.D 2) 2), .int .i64 ((x.N.Z.D 2) 3), .int .i64 ((x.N.Z.D 2) 4), .int .i64 ((x.N.Z.D 2) 5), .int .i64 ((x.N.Z.D 2) 6), .int .i64 ((x.N.Z.D 3) 0), .int .i64 ((x.N.Z.D 3) 1), .int .i64 ((x.N.Z.D 3) 2), .int .i64 ((x.N.Z.D 3) 3), .int .i64 ((x.N.Z.D 3) 4), .int .i64 ((x.N.Z.D 3) 5), .int .i64 ((x.N.Z.D 3) 6), .int .i64 ((x.N.Z.D 4) 0), .int .i64 ((x.N.Z.D 4) 1), .int .i64 ((x.N.Z.D 4) 2), .int .i64 ((x.N.Z.D 4) 3), .int .i64 ((x.N.Z.D 4) 4), .int .i64 ((x.N.Z.D 4) 5), .int .i64 ((x.N.Z.D 4) 6), .int .i64 ((x.N.Z.D 5) 0), .int .i64 ((x.N.Z.D 5) 1), .int .i64 ((x.N.Z.D 5) 2), .int .i64 ((x.N.Z.D 5) 3), .int .i64 ((x.N.Z.D 5) 4), .int .i64 ((x.N.Z.D 5) 5), .int .i64 ((x.N.Z.D 5) 6), .int .i64 ((x.N.Z.D 6) 0), .int .i64 ((x.N.Z.D 6) 1), .int .i64 ((x.N.Z.D 6) 2), .int .i64 ((x.N.Z.D 6) 3), .int .i64 ((x.N.Z.D 6) 4), .int .i64 ((x.N.Z.D 6) 5), .int .i64 ((x.N.Z.D 6) 6), .sl (List.map e_itv_Itv x.Counts), .sl (List.map e_rule_Set x.Rules)]
def e_sl51 (x : (List trans_State)) : List PV := [.sl (List.map e_trans_State x)]
def e_queue_Elem (x : queue_Elem) : List PV := [.int .i64 x.Len.Lo, .int .i64 x.Len.Hi, .sl (List.map e_itv_Itv x.Vals)]
def e_fix_Alarm (x : fix_Alarm) : List PV := [.int .i64 x.Proc, .int .i64 x.Edge, .int .i64 x.Kind]
structure runtime_boundsError where
  f_x : Int
  f_y : Int
  f_signed : Bool
  f_code : Int
structure runtime_errorAddressString where
  f_msg : ByteArray
  f_addr : Int
structure l17_Raw where
  Steps : Int
  Nodes : (List r08_Itv)
  Never : Bool
  Elem : (List r08_Itv)
  Alarms : (List fix_Alarm)
structure lex_Token where
  Kind : Int
  Text : ByteArray
  Num : Int
  At : Int
structure r01_Token where
  Kind : Int
  Text : ByteArray
  Num : Int
  At : Int
structure utf8_acceptRange where
  f_lo : Int
  f_hi : Int
structure errors_errorString where
  f_s : ByteArray
def e_i64 (x : Int) : List PV := [.int .i64 x]
def e_u8 (x : Int) : List PV := [.int .u8 x]
def e_T40 (x : (Nat → (Nat → Int))) : List PV := [.int .i64 ((x 0) 0), .int .i64 ((x 0) 1), .int .i64 ((x 0) 2), .int .i64 ((x 0) 3), .int .i64 ((x 0) 4), .int .i64 ((x 0) 5), .int .i64 ((x 0) 6), .int .i64 ((x 1) 0), .int .i64 ((x 1) 1), .int .i64 ((x 1) 2), .int .i64 ((x 1) 3), .int .i64 ((x 1) 4), .int .i64 ((x 1) 5), .int .i64 ((x 1) 6), .int .i64 ((x 2) 0), .int .i64 ((x 2) 1), .int .i64 ((x 2) 2), .int .i64 ((x 2) 3), .int .i64 ((x 2) 4), .int .i64 ((x 2) 5), .int .i64 ((x 2) 6), .int .i64 ((x 3) 0), .int .i64 ((x 3) 1), .int .i64 ((x 3) 2), .int .i64 ((x 3) 3), .int .i64 ((x 3) 4), .int .i64 ((x 3) 5), .int .i64 ((x 3) 6), .int .i64 ((x 4) 0), .int .i64 ((x 4) 1), .int .i64 ((x 4) 2), .int .i64 ((x 4) 3), .int .i64 ((x 4) 4), .int .i64 ((x 4) 5), .int .i64 ((x 4) 6), .int .i64 ((x 5) 0), .int .i64 ((x 5) 1), .int .i64 ((x 5) 2), .int .i64 ((x 5) 3), .int .i64 ((x 5) 4), .int .i64 ((x 5) 5), .int .i64 ((x 5) 6), .int .i64 ((x 6) 0), .int .i64 ((x 6) 1), .int .i64 ((x 6) 2), .int .i64 ((x 6) 3), .int .i64 ((x 6) 4), .int .i64 ((x 6) 5), .int .i64 ((x 6) 6)]
def e_r08_Itv (x : r08_Itv) : List PV := [.int .i64 x.Lo, .int .i64 x.Hi]

noncomputable def r08_Bend (a0 : r08_Itv) : Option r08_Itv :=
 some (r08_Itv.mk (IntKind.i64.wrap (IntKind.i32.wrap a0.Lo)) (IntKind.i64.wrap (IntKind.i32.wrap a0.Hi)))

def r_r08_Bend (r : r08_Itv) : List XV := [.agg [.pv (.int .i64 r.Lo), .pv (.int .i64 r.Hi)]]

def o_r08_Bend (r : r08_Itv) : Store := []

noncomputable def itv_Empty (a0 : itv_Itv) : Option Bool :=
 some (decide (a0.Lo > a0.Hi))

def r_itv_Empty (r : Bool) : List XV := [.c (.pv (.bool r))]

def o_itv_Empty (r : Bool) : Store := []

noncomputable def itv_None : Option itv_Itv :=
 some (itv_Itv.mk 1 0)

def r_itv_None (r : itv_Itv) : List XV := [.agg [.pv (.int .i64 r.Lo), .pv (.int .i64 r.Hi)]]

def o_itv_None (r : itv_Itv) : Store := []

noncomputable def itv_norm (a0 : itv_Itv) : Option itv_Itv :=
 itv_Empty a0 >>= fun v1 =>
 if v1 then (itv_None >>= fun v2 =>
 some v2)
 else (some a0)

def r_itv_norm (r : itv_Itv) : List XV := [.agg [.pv (.int .i64 r.Lo), .pv (.int .i64 r.Hi)]]

def o_itv_norm (r : itv_Itv) : Store := []

noncomputable def itv_Of (a0 : Int) (a1 : Int) : Option itv_Itv :=
 itv_norm (itv_Itv.mk (max a0 (-2147483648)) (min a1 2147483647)) >>= fun v1 =>
 some v1

def r_itv_Of (r : itv_Itv) : List XV := [.agg [.pv (.int .i64 r.Lo), .pv (.int .i64 r.Hi)]]

def o_itv_Of (r : itv_Itv) : Store := []

noncomputable def itv_All : Option itv_Itv :=
 some (itv_Itv.mk (-2147483648) 2147483647)

def r_itv_All (r : itv_Itv) : List XV := [.agg [.pv (.int .i64 r.Lo), .pv (.int .i64 r.Hi)]]

def o_itv_All (r : itv_Itv) : Store := []

noncomputable def report_Itv (a0 : itv_Itv) : Option ByteArray :=
 itv_Empty a0 >>= fun v1 =>
 if v1 then (some (ByteArray.mk #[110, 111, 110, 101]))
 else (if (a0.Lo == a0.Hi) then (itoa a0.Lo >>= fun v2 =>
 some v2)
 else (itv_All >>= fun v4 =>
 if ((a0.Lo : Int) == v4.Lo && ((a0.Hi : Int) == v4.Hi && true)) then (some (ByteArray.mk #[97, 110, 121]))
 else (itoa a0.Lo >>= fun v6 =>
 scat v6 (ByteArray.mk #[32, 116, 111, 32]) >>= fun v7 =>
 itoa a0.Hi >>= fun v9 =>
 scat v7 v9 >>= fun v10 =>
 some v10)))

def r_report_Itv (r : ByteArray) : List XV := [.c (.pv (.str r))]

def o_report_Itv (r : ByteArray) : Store := []

noncomputable def report_Alarm (a0 : fix_Alarm) : Option ByteArray :=
 ((((if (decide (a0.Kind < 0)) then (some true)
 else (some (decide (a0.Kind ≥ 7))) : Option Bool) >>= fun j2 =>
 if j2 then (some 0)
 else (some a0.Kind)) : Option Int) >>= fun j1 =>
 idx [(ByteArray.mk #[101, 114, 114, 111, 114]), (ByteArray.mk #[102, 97, 105, 108, 101, 100, 32, 97, 115, 115, 101, 114, 116, 105, 111, 110]), (ByteArray.mk #[111, 118, 101, 114, 102, 108, 111, 119]), (ByteArray.mk #[100, 105, 118, 105, 115, 105, 111, 110, 32, 98, 121, 32, 122, 101, 114, 111]), (ByteArray.mk #[102, 117, 108, 108, 32, 99, 104, 97, 110, 110, 101, 108]), (ByteArray.mk #[119, 114, 111, 110, 103, 32, 116, 97, 103]), (ByteArray.mk #[98, 114, 111, 107, 101, 110, 32, 114, 117, 108, 101])] j1 >>= fun v1 =>
 scat v1 (ByteArray.mk #[32, 97, 116, 32, 112, 114, 111, 99, 101, 115, 115, 32]) >>= fun v2 =>
 itoa a0.Proc >>= fun v4 =>
 scat v2 v4 >>= fun v5 =>
 scat v5 (ByteArray.mk #[32, 101, 100, 103, 101, 32]) >>= fun v6 =>
 itoa a0.Edge >>= fun v8 =>
 scat v6 v8 >>= fun v9 =>
 some v9)

def r_report_Alarm (r : ByteArray) : List XV := [.c (.pv (.str r))]

def o_report_Alarm (r : ByteArray) : Store := []

noncomputable def trans_Empty (a0 : trans_State) : Option Bool :=
 some a0.N.None

def r_trans_Empty (r : Bool) : List XV := [.c (.pv (.bool r))]

def o_trans_Empty (r : Bool) : Store := []

noncomputable def report_state_l2 (a0 : trans_State) (x2 : (Int × (List ByteArray))) : Option (Sum (Int × (List ByteArray)) (Sum ByteArray (List ByteArray))) :=
 if (decide (x2.1 < (a0.N.I.length : Int))) then (idx a0.N.I x2.1 >>= fun v2 =>
 report_Itv v2 >>= fun v3 =>
 app 16 x2.2 [v3] >>= fun v4 =>
 some (.inl ((IntKind.i64.wrap (x2.1 + 1)), v4)))
 else (some (.inr (.inr x2.2)))

noncomputable def report_state (a0 : trans_State) : Option ByteArray :=
 trans_Empty a0 >>= fun v1 =>
 if v1 then (some (ByteArray.mk #[110, 101, 118, 101, 114]))
 else (iter (report_state_l2 a0) (0, []) >>= Sum.elim (fun _ => none) (fun j2 =>
 if ((j2.length : Int) == 0) then (some (ByteArray.mk #[110, 111, 116, 104, 105, 110, 103]))
 else (join j2 (ByteArray.mk #[44, 32]) >>= fun v5 =>
 some v5)))

def r_report_state (r : ByteArray) : List XV := [.c (.pv (.str r))]

def o_report_state (r : ByteArray) : Store := []

noncomputable def queue_Tags_l2 (a0 : queue_Elem) (x2 : (Int × (List Int))) : Option (Sum (Int × (List Int)) (Sum (List Int) (List Int))) :=
 if (decide (x2.1 < (a0.Vals.length : Int))) then (((idx a0.Vals x2.1 >>= fun v1 =>
 itv_Empty v1 >>= fun v2 =>
 if (!v2) then (app 8 x2.2 [x2.1] >>= fun v3 =>
 some v3)
 else (some x2.2) : Option (List Int)) >>= fun j3 =>
 some (.inl ((IntKind.i64.wrap (x2.1 + 1)), j3))))
 else (some (.inr (.inr x2.2)))

noncomputable def queue_Tags (a0 : queue_Elem) : Option (List Int) :=
 iter (queue_Tags_l2 a0) (0, []) >>= Sum.elim (fun _ => none) (fun j2 =>
 some j2)

def r_queue_Tags (r : (List Int)) : List XV := [.c (.pv (.sl (List.map e_i64 r)))]

def o_queue_Tags (r : (List Int)) : Store := []

noncomputable def report_channel_l1 (a0 : queue_Elem) (v3 : (List Int)) (x1 : (Int × (List ByteArray))) : Option (Sum (Int × (List ByteArray)) (Sum ByteArray (List ByteArray))) :=
 if (decide (x1.1 < (v3.length : Int))) then (idx v3 x1.1 >>= fun v4 =>
 itoa v4 >>= fun v6 =>
 scat (ByteArray.mk #[116, 97, 103, 32]) v6 >>= fun v7 =>
 scat v7 (ByteArray.mk #[58, 32]) >>= fun v8 =>
 idx a0.Vals v4 >>= fun v9 =>
 report_Itv v9 >>= fun v11 =>
 scat v8 v11 >>= fun v12 =>
 app 16 x1.2 [v12] >>= fun v13 =>
 some (.inl ((IntKind.i64.wrap (x1.1 + 1)), v13)))
 else (some (.inr (.inr x1.2)))

noncomputable def report_channel (a0 : queue_Elem) : Option ByteArray :=
 report_Itv a0.Len >>= fun v1 =>
 scat v1 (ByteArray.mk #[32, 109, 101, 115, 115, 97, 103, 101, 115]) >>= fun v2 =>
 queue_Tags a0 >>= fun v3 =>
 iter (report_channel_l1 a0 v3) (0, [v2]) >>= Sum.elim (fun _ => none) (fun j1 =>
 join j1 (ByteArray.mk #[44, 32]) >>= fun v14 =>
 some v14)

def r_report_channel (r : ByteArray) : List XV := [.c (.pv (.str r))]

def o_report_channel (r : ByteArray) : Store := []

noncomputable def report_last (a0 : Int) : Option ByteArray :=
 if (a0 == 0) then (some (ByteArray.mk #[110, 111, 32, 97, 108, 97, 114, 109]))
 else (itoa a0 >>= fun v1 =>
 scat v1 (ByteArray.mk #[32, 97, 108, 97, 114, 109, 115]) >>= fun v2 =>
 some v2)

def r_report_last (r : ByteArray) : List XV := [.c (.pv (.str r))]

def o_report_last (r : ByteArray) : Store := []

noncomputable def report_Text_l2 (v3 : (List trans_State)) (x2 : (Int × (List ByteArray))) : Option (Sum (Int × (List ByteArray)) (Sum ByteArray (List ByteArray))) :=
 if (decide (x2.1 < (v3.length : Int))) then (idx v3 x2.1 >>= fun v7 =>
 itoa x2.1 >>= fun v9 =>
 scat (ByteArray.mk #[110, 111, 100, 101, 32]) v9 >>= fun v10 =>
 scat v10 (ByteArray.mk #[58, 32]) >>= fun v11 =>
 report_state v7 >>= fun v13 =>
 scat v11 v13 >>= fun v14 =>
 app 16 x2.2 [v14] >>= fun v15 =>
 some (.inl ((IntKind.i64.wrap (x2.1 + 1)), v15)))
 else (some (.inr (.inr x2.2)))

noncomputable def report_Text_l1 (a0 : outer_Result) (x1 : (Int × (List ByteArray))) : Option (Sum (Int × (List ByteArray)) (Sum ByteArray (List ByteArray))) :=
 if (decide (x1.1 < (a0.At.length : Int))) then (idx a0.At x1.1 >>= fun v3 =>
 itoa x1.1 >>= fun v4 =>
 scat (ByteArray.mk #[112, 114, 111, 99, 101, 115, 115, 32]) v4 >>= fun v5 =>
 app 16 x1.2 [v5] >>= fun v6 =>
 iter (report_Text_l2 v3) (0, v6) >>= Sum.elim (fun _ => none) (fun j2 =>
 some (.inl ((IntKind.i64.wrap (x1.1 + 1)), j2))))
 else (some (.inr (.inr x1.2)))

noncomputable def report_Text_l3 (a0 : outer_Result) (x3 : (Int × (List ByteArray))) : Option (Sum (Int × (List ByteArray)) (Sum ByteArray (List ByteArray))) :=
 if (decide (x3.1 < (a0.Elems.length : Int))) then (idx a0.Elems x3.1 >>= fun v16 =>
 itoa x3.1 >>= fun v18 =>
 scat (ByteArray.mk #[99, 104, 97, 110, 110, 101, 108, 32]) v18 >>= fun v19 =>
 scat v19 (ByteArray.mk #[58, 32]) >>= fun v20 =>
 report_channel v16 >>= fun v22 =>
 scat v20 v22 >>= fun v23 =>
 app 16 x3.2 [v23] >>= fun v24 =>
 some (.inl ((IntKind.i64.wrap (x3.1 + 1)), v24)))
 else (some (.inr (.inr x3.2)))

noncomputable def report_Text_l4 (a0 : outer_Result) (x4 : (Int × (List ByteArray))) : Option (Sum (Int × (List ByteArray)) (Sum ByteArray (List ByteArray))) :=
 if (decide (x4.1 < (a0.Alarms.length : Int))) then (idx a0.Alarms x4.1 >>= fun v25 =>
 report_Alarm v25 >>= fun v26 =>
 app 16 x4.2 [v26] >>= fun v27 =>
 some (.inl ((IntKind.i64.wrap (x4.1 + 1)), v27)))
 else (some (.inr (.inr x4.2)))

noncomputable def report_Text (a0 : outer_Result) : Option ByteArray :=
 itoa a0.Steps >>= fun v1 =>
 scat (ByteArray.mk #[115, 116, 101, 112, 115, 32]) v1 >>= fun v2 =>
 iter (report_Text_l1 a0) (0, [v2]) >>= Sum.elim (fun _ => none) (fun j1 =>
 iter (report_Text_l3 a0) (0, j1) >>= Sum.elim (fun _ => none) (fun j3 =>
 iter (report_Text_l4 a0) (0, j3) >>= Sum.elim (fun _ => none) (fun j4 =>
 report_last (a0.Alarms.length : Int) >>= fun v28 =>
 app 16 j4 [v28, (ByteArray.mk #[])] >>= fun v29 =>
 join v29 (ByteArray.mk #[10]) >>= fun v30 =>
 some v30)))

def r_report_Text (r : ByteArray) : List XV := [.c (.pv (.str r))]

def o_report_Text (r : ByteArray) : Store := []

noncomputable def l17_says : Option Bool :=
 ((itv_Of (-2) 7 >>= fun v1 =>
 report_Itv v1 >>= fun v2 =>
 if (v2.toList == (ByteArray.mk #[45, 50, 32, 116, 111, 32, 55]).toList) then (itv_None >>= fun v3 =>
 report_Itv v3 >>= fun v4 =>
 if (v4.toList == (ByteArray.mk #[110, 111, 110, 101]).toList) then (report_Alarm (fix_Alarm.mk 0 3 2) >>= fun v5 =>
 if (v5.toList == (ByteArray.mk #[111, 118, 101, 114, 102, 108, 111, 119, 32, 97, 116, 32, 112, 114, 111, 99, 101, 115, 115, 32, 48, 32, 101, 100, 103, 101, 32, 51]).toList) then (report_Text (outer_Result.mk [] [] [] 0) >>= fun v6 =>
 some (v6.toList == (ByteArray.mk #[115, 116, 101, 112, 115, 32, 48, 10, 110, 111, 32, 97, 108, 97, 114, 109, 10]).toList))
 else (some false))
 else (some false))
 else (some false) : Option Bool) >>= fun j1 =>
 some j1)

def r_l17_says (r : Bool) : List XV := [.c (.pv (.bool r))]

def o_l17_says (r : Bool) : Store := []

noncomputable def r17_digits_l1 (x1 : (Int × ByteArray)) : Option (Sum (Int × ByteArray) (Sum ByteArray ByteArray)) :=
 ((if (decide (x1.1 > 0)) then (some true)
 else (some (x1.2.toList == (ByteArray.mk #[]).toList)) : Option Bool) >>= fun j2 =>
 if j2 then (rem x1.1 10 >>= fun v1 =>
 scat (strOfNums [(IntKind.u8.wrap (IntKind.u64.wrap (48 + v1)))]) x1.2 >>= fun v2 =>
 quo .u64 x1.1 10 >>= fun v3 =>
 some (.inl (v3, v2)))
 else (some (.inr (.inr x1.2))))

noncomputable def r17_digits (a0 : Int) : Option ByteArray :=
 iter (r17_digits_l1) (a0, (ByteArray.mk #[])) >>= Sum.elim (fun _ => none) (fun j1 =>
 some j1)

def r_r17_digits (r : ByteArray) : List XV := [.c (.pv (.str r))]

def o_r17_digits (r : ByteArray) : Store := []

noncomputable def r17_Number (a0 : Int) : Option ByteArray :=
 if (decide (a0 < 0)) then (r17_digits (IntKind.u64.wrap (IntKind.i64.wrap (0 - a0))) >>= fun v1 =>
 scat (ByteArray.mk #[45]) v1 >>= fun v2 =>
 some v2)
 else (r17_digits (IntKind.u64.wrap a0) >>= fun v3 =>
 some v3)

def r_r17_Number (r : ByteArray) : List XV := [.c (.pv (.str r))]

def o_r17_Number (r : ByteArray) : Store := []

noncomputable def r17_Itv (a0 : r08_Itv) : Option ByteArray :=
 if (decide (a0.Lo > a0.Hi)) then (some (ByteArray.mk #[110, 111, 110, 101]))
 else (if (a0.Lo == a0.Hi) then (r17_Number a0.Lo >>= fun v1 =>
 some v1)
 else (((if (a0.Lo == (-2147483648)) then (some (a0.Hi == 2147483647))
 else (some false) : Option Bool) >>= fun j1 =>
 if j1 then (some (ByteArray.mk #[97, 110, 121]))
 else (r17_Number a0.Lo >>= fun v3 =>
 scat v3 (ByteArray.mk #[32, 116, 111, 32]) >>= fun v4 =>
 r17_Number a0.Hi >>= fun v6 =>
 scat v4 v6 >>= fun v7 =>
 some v7))))

def r_r17_Itv (r : ByteArray) : List XV := [.c (.pv (.str r))]

def o_r17_Itv (r : ByteArray) : Store := []

noncomputable def r17_Alarm (a0 : Int) (a1 : Int) (a2 : Int) : Option ByteArray :=
 ((((if (decide (a2 ≥ 1)) then (some (decide (a2 ≤ 6)))
 else (some false) : Option Bool) >>= fun j2 =>
 if j2 then (idx [(ByteArray.mk #[102, 97, 105, 108, 101, 100, 32, 97, 115, 115, 101, 114, 116, 105, 111, 110]), (ByteArray.mk #[111, 118, 101, 114, 102, 108, 111, 119]), (ByteArray.mk #[100, 105, 118, 105, 115, 105, 111, 110, 32, 98, 121, 32, 122, 101, 114, 111]), (ByteArray.mk #[102, 117, 108, 108, 32, 99, 104, 97, 110, 110, 101, 108]), (ByteArray.mk #[119, 114, 111, 110, 103, 32, 116, 97, 103]), (ByteArray.mk #[98, 114, 111, 107, 101, 110, 32, 114, 117, 108, 101])] (IntKind.i64.wrap (a2 - 1)) >>= fun v1 =>
 some v1)
 else (some (ByteArray.mk #[101, 114, 114, 111, 114]))) : Option ByteArray) >>= fun j1 =>
 scat j1 (ByteArray.mk #[32, 97, 116, 32, 112, 114, 111, 99, 101, 115, 115, 32]) >>= fun v2 =>
 r17_Number a0 >>= fun v3 =>
 scat v2 v3 >>= fun v4 =>
 scat v4 (ByteArray.mk #[32, 101, 100, 103, 101, 32]) >>= fun v5 =>
 r17_Number a1 >>= fun v6 =>
 scat v5 v6 >>= fun v7 =>
 some v7)

def r_r17_Alarm (r : ByteArray) : List XV := [.c (.pv (.str r))]

def o_r17_Alarm (r : ByteArray) : Store := []

noncomputable def l17_ReportItvs (a0 : r08_Itv) (a1 : fix_Alarm) : Option Bool :=
 r08_Bend a0 >>= fun v1 =>
 ((l17_says >>= fun v3 =>
 if v3 then (report_Itv (itv_Itv.mk a0.Lo a0.Hi) >>= fun v5 =>
 r17_Itv a0 >>= fun v7 =>
 if (v5.toList == v7.toList) then (report_Itv (itv_Itv.mk v1.Lo v1.Hi) >>= fun v9 =>
 r17_Itv v1 >>= fun v11 =>
 if (v9.toList == v11.toList) then (report_Alarm a1 >>= fun v13 =>
 r17_Alarm a1.Proc a1.Edge a1.Kind >>= fun v15 =>
 some (v13.toList == v15.toList))
 else (some false))
 else (some false))
 else (some false) : Option Bool) >>= fun j1 =>
 some j1)

def r_l17_ReportItvs (r : Bool) : List XV := [.c (.pv (.bool r))]

def o_l17_ReportItvs (r : Bool) : Store := []

noncomputable def l17_text_l5 (v10 : trans_State) (x5 : (ByteArray × Int)) : Option (Sum (ByteArray × Int) (Sum ByteArray ByteArray)) :=
 if (decide (x5.2 < (v10.N.I.length : Int))) then (((if (decide (x5.2 > 0)) then (scat x5.1 (ByteArray.mk #[44, 32]) >>= fun v17 =>
 some v17)
 else (some x5.1) : Option ByteArray) >>= fun j6 =>
 idx v10.N.I x5.2 >>= fun v18 =>
 idx v10.N.I x5.2 >>= fun v19 =>
 r17_Itv (r08_Itv.mk v18.Lo v19.Hi) >>= fun v21 =>
 scat j6 v21 >>= fun v22 =>
 some (.inl (v22, (IntKind.i64.wrap (x5.2 + 1))))))
 else (some (.inr (.inr x5.1)))

noncomputable def l17_text_l2 (a0 : outer_Result) (x1 : (ByteArray × Int)) (x2 : (ByteArray × Int)) : Option (Sum (ByteArray × Int) (Sum ByteArray ByteArray)) :=
 idx a0.At x1.2 >>= fun v8 =>
 if (decide (x2.2 < (v8.length : Int))) then (((idx a0.At x1.2 >>= fun v9 =>
 idx v9 x2.2 >>= fun v10 =>
 scat x2.1 (ByteArray.mk #[110, 111, 100, 101, 32]) >>= fun v11 =>
 r17_Number x2.2 >>= fun v12 =>
 scat v11 v12 >>= fun v13 =>
 scat v13 (ByteArray.mk #[58, 32]) >>= fun v14 =>
 if v10.N.None then (scat v14 (ByteArray.mk #[110, 101, 118, 101, 114, 10]) >>= fun v15 =>
 some v15)
 else (((if ((v10.N.I.length : Int) == 0) then (scat v14 (ByteArray.mk #[110, 111, 116, 104, 105, 110, 103]) >>= fun v16 =>
 some v16)
 else (some v14) : Option ByteArray) >>= fun j4 =>
 iter (l17_text_l5 v10) (j4, 0) >>= Sum.elim (fun _ => none) (fun j5 =>
 scat j5 (ByteArray.mk #[10]) >>= fun v23 =>
 some v23))) : Option ByteArray) >>= fun j3 =>
 some (.inl (j3, (IntKind.i64.wrap (x2.2 + 1))))))
 else (some (.inr (.inr x2.1)))

noncomputable def l17_text_l1 (a0 : outer_Result) (x1 : (ByteArray × Int)) : Option (Sum (ByteArray × Int) (Sum ByteArray ByteArray)) :=
 if (decide (x1.2 < (a0.At.length : Int))) then (scat x1.1 (ByteArray.mk #[112, 114, 111, 99, 101, 115, 115, 32]) >>= fun v4 =>
 r17_Number x1.2 >>= fun v5 =>
 scat v4 v5 >>= fun v6 =>
 scat v6 (ByteArray.mk #[10]) >>= fun v7 =>
 iter (l17_text_l2 a0 x1) (v7, 0) >>= Sum.elim (fun _ => none) (fun j2 =>
 some (.inl (j2, (IntKind.i64.wrap (x1.2 + 1))))))
 else (some (.inr (.inr x1.1)))

noncomputable def l17_text_l8 (v24 : queue_Elem) (x8 : (ByteArray × Int)) : Option (Sum (ByteArray × Int) (Sum ByteArray ByteArray)) :=
 if (decide (x8.2 < (v24.Vals.length : Int))) then (((idx v24.Vals x8.2 >>= fun v34 =>
 idx v24.Vals x8.2 >>= fun v35 =>
 if (decide (v34.Lo ≤ v35.Hi)) then (scat x8.1 (ByteArray.mk #[44, 32, 116, 97, 103, 32]) >>= fun v36 =>
 r17_Number x8.2 >>= fun v38 =>
 scat v36 v38 >>= fun v39 =>
 scat v39 (ByteArray.mk #[58, 32]) >>= fun v40 =>
 idx v24.Vals x8.2 >>= fun v41 =>
 idx v24.Vals x8.2 >>= fun v42 =>
 r17_Itv (r08_Itv.mk v41.Lo v42.Hi) >>= fun v44 =>
 scat v40 v44 >>= fun v45 =>
 some v45)
 else (some x8.1) : Option ByteArray) >>= fun j9 =>
 some (.inl (j9, (IntKind.i64.wrap (x8.2 + 1))))))
 else (some (.inr (.inr x8.1)))

noncomputable def l17_text_l7 (a0 : outer_Result) (x7 : (ByteArray × Int)) : Option (Sum (ByteArray × Int) (Sum ByteArray ByteArray)) :=
 if (decide (x7.2 < (a0.Elems.length : Int))) then (idx a0.Elems x7.2 >>= fun v24 =>
 scat x7.1 (ByteArray.mk #[99, 104, 97, 110, 110, 101, 108, 32]) >>= fun v25 =>
 r17_Number x7.2 >>= fun v27 =>
 scat v25 v27 >>= fun v28 =>
 scat v28 (ByteArray.mk #[58, 32]) >>= fun v29 =>
 r17_Itv (r08_Itv.mk v24.Len.Lo v24.Len.Hi) >>= fun v31 =>
 scat v29 v31 >>= fun v32 =>
 scat v32 (ByteArray.mk #[32, 109, 101, 115, 115, 97, 103, 101, 115]) >>= fun v33 =>
 iter (l17_text_l8 v24) (v33, 0) >>= Sum.elim (fun _ => none) (fun j8 =>
 scat j8 (ByteArray.mk #[10]) >>= fun v46 =>
 some (.inl (v46, (IntKind.i64.wrap (x7.2 + 1))))))
 else (some (.inr (.inr x7.1)))

noncomputable def l17_text_l10 (a0 : outer_Result) (x10 : (ByteArray × Int)) : Option (Sum (ByteArray × Int) (Sum ByteArray ByteArray)) :=
 if (decide (x10.2 < (a0.Alarms.length : Int))) then (idx a0.Alarms x10.2 >>= fun v47 =>
 idx a0.Alarms x10.2 >>= fun v48 =>
 idx a0.Alarms x10.2 >>= fun v49 =>
 r17_Alarm v47.Proc v48.Edge v49.Kind >>= fun v51 =>
 scat x10.1 v51 >>= fun v52 =>
 scat v52 (ByteArray.mk #[10]) >>= fun v53 =>
 some (.inl (v53, (IntKind.i64.wrap (x10.2 + 1)))))
 else (some (.inr (.inr x10.1)))

noncomputable def l17_text (a0 : outer_Result) : Option ByteArray :=
 r17_Number a0.Steps >>= fun v1 =>
 scat (ByteArray.mk #[115, 116, 101, 112, 115, 32]) v1 >>= fun v2 =>
 scat v2 (ByteArray.mk #[10]) >>= fun v3 =>
 iter (l17_text_l1 a0) (v3, 0) >>= Sum.elim (fun _ => none) (fun j1 =>
 iter (l17_text_l7 a0) (j1, 0) >>= Sum.elim (fun _ => none) (fun j7 =>
 iter (l17_text_l10 a0) (j7, 0) >>= Sum.elim (fun _ => none) (fun j10 =>
 if ((a0.Alarms.length : Int) == 0) then (scat j10 (ByteArray.mk #[110, 111, 32, 97, 108, 97, 114, 109, 10]) >>= fun v54 =>
 some v54)
 else (r17_Number (a0.Alarms.length : Int) >>= fun v55 =>
 scat j10 v55 >>= fun v56 =>
 scat v56 (ByteArray.mk #[32, 97, 108, 97, 114, 109, 115, 10]) >>= fun v57 =>
 some v57))))

def r_l17_text (r : ByteArray) : List XV := [.c (.pv (.str r))]

def o_l17_text (r : ByteArray) : Store := []

noncomputable def l17_ReportRaw_l2 (a0 : l17_Raw) (x2 : (Int × trans_State × (List itv_Itv))) : Option (Sum (Int × trans_State × (List itv_Itv)) (Sum Bool (trans_State × (List itv_Itv)))) :=
 ((if (decide (x2.1 < (a0.Nodes.length : Int))) then (some (decide (x2.1 < 9)))
 else (some false) : Option Bool) >>= fun j3 =>
 if j3 then (idx a0.Nodes x2.1 >>= fun v1 =>
 idx a0.Nodes x2.1 >>= fun v2 =>
 app 16 x2.2.2 [(itv_Itv.mk v1.Lo v2.Hi)] >>= fun v3 =>
 some (trans_State.mk (num_Num.mk x2.2.1.N.None v3 x2.2.1.N.Z) x2.2.1.Counts x2.2.1.Rules) >>= fun v4 =>
 some (.inl ((IntKind.i64.wrap (x2.1 + 1)), (trans_State.mk (num_Num.mk v4.N.None v3 v4.N.Z) v4.Counts v4.Rules), v3)))
 else (some (.inr (.inr ((trans_State.mk (num_Num.mk x2.2.1.N.None x2.2.2 x2.2.1.N.Z) x2.2.1.Counts x2.2.1.Rules), x2.2.2)))))

noncomputable def l17_ReportRaw_l5 (a0 : l17_Raw) (x5 : (Int × (List itv_Itv))) : Option (Sum (Int × (List itv_Itv)) (Sum Bool (List itv_Itv))) :=
 ((if (decide (x5.1 < (a0.Elem.length : Int))) then (some (decide (x5.1 < 9)))
 else (some false) : Option Bool) >>= fun j6 =>
 if j6 then (idx a0.Elem x5.1 >>= fun v6 =>
 idx a0.Elem x5.1 >>= fun v7 =>
 app 16 x5.2 [(itv_Itv.mk v6.Lo v7.Hi)] >>= fun v8 =>
 some (.inl ((IntKind.i64.wrap (x5.1 + 1)), v8)))
 else (some (.inr (.inr x5.2))))

noncomputable def l17_ReportRaw (a0 : l17_Raw) : Option Bool :=
 iter (l17_ReportRaw_l2 a0) (0, (trans_State.mk (num_Num.mk a0.Never [] (zone_Zone.mk 0 false (arr (arr 0 []) [(arr 0 [0, 0, 0, 0, 0, 0, 0]), (arr 0 [0, 0, 0, 0, 0, 0, 0]), (arr 0 [0, 0, 0, 0, 0, 0, 0]), (arr 0 [0, 0, 0, 0, 0, 0, 0]), (arr 0 [0, 0, 0, 0, 0, 0, 0]), (arr 0 [0, 0, 0, 0, 0, 0, 0]), (arr 0 [0, 0, 0, 0, 0, 0, 0])]))) [] []), []) >>= Sum.elim (fun _ => none) (fun j2 =>
 itv_Of 0 2 >>= fun v5 =>
 iter (l17_ReportRaw_l5 a0) (0, []) >>= Sum.elim (fun _ => none) (fun j5 =>
 lsub a0.Alarms 0 (min (a0.Alarms.length : Int) 9) >>= fun v9 =>
 ((l17_says >>= fun v11 =>
 if v11 then (report_Text (outer_Result.mk [[(trans_State.mk (num_Num.mk j2.1.N.None j2.2 j2.1.N.Z) j2.1.Counts j2.1.Rules), (trans_State.mk (num_Num.mk false [] (zone_Zone.mk 0 false (arr (arr 0 []) [(arr 0 [0, 0, 0, 0, 0, 0, 0]), (arr 0 [0, 0, 0, 0, 0, 0, 0]), (arr 0 [0, 0, 0, 0, 0, 0, 0]), (arr 0 [0, 0, 0, 0, 0, 0, 0]), (arr 0 [0, 0, 0, 0, 0, 0, 0]), (arr 0 [0, 0, 0, 0, 0, 0, 0]), (arr 0 [0, 0, 0, 0, 0, 0, 0])]))) [] [])], []] [(queue_Elem.mk v5 j5), (queue_Elem.mk (itv_Itv.mk 0 0) [])] v9 a0.Steps) >>= fun v13 =>
 l17_text (outer_Result.mk [[(trans_State.mk (num_Num.mk j2.1.N.None j2.2 j2.1.N.Z) j2.1.Counts j2.1.Rules), (trans_State.mk (num_Num.mk false [] (zone_Zone.mk 0 false (arr (arr 0 []) [(arr 0 [0, 0, 0, 0, 0, 0, 0]), (arr 0 [0, 0, 0, 0, 0, 0, 0]), (arr 0 [0, 0, 0, 0, 0, 0, 0]), (arr 0 [0, 0, 0, 0, 0, 0, 0]), (arr 0 [0, 0, 0, 0, 0, 0, 0]), (arr 0 [0, 0, 0, 0, 0, 0, 0]), (arr 0 [0, 0, 0, 0, 0, 0, 0])]))) [] [])], []] [(queue_Elem.mk v5 j5), (queue_Elem.mk (itv_Itv.mk 0 0) [])] v9 a0.Steps) >>= fun v15 =>
 some (v13.toList == v15.toList))
 else (some false) : Option Bool) >>= fun j7 =>
 some j7)))

def r_l17_ReportRaw (r : Bool) : List XV := [.c (.pv (.bool r))]

def o_l17_ReportRaw (r : Bool) : Store := []
end Go.Proofs.YtjcbedgpmjgcdaaDoor.Abs
