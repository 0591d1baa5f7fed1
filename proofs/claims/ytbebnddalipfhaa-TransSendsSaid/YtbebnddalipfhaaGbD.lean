/- Gb: the functions, told by typed values. -/
import Derived.Test.YtbebnddalipfhaaAbsT
import Derived.Test.YtbebnddalipfhaaAbsY
namespace Go.Proofs.Ytbebnddalipfhaa.Abs
open Go Go.RowKit
set_option linter.unusedVariables false
def GG : Nat → Option (List PV) := fun _ => none

structure check_Expr where
  Kind : Int
  Num : Int
  Var : Int
  Kids : (List check_Expr)
structure check_Cond where
  Op : Int
  L : check_Expr
  R : check_Expr
structure flow_Edge where
  From : Int
  To : Int
  Kind : Int
  Var : Int
  Chan : Int
  Tag : Int
  E : check_Expr
  C : check_Cond
structure check_Chan where
  Kind : Int
  Size : Int
  From : Int
  To : Int
  Tags : Int
  Rule : (List (List Int))
structure flow_Graph where
  Nodes : Int
  Edges : (List flow_Edge)
  Heads : (List Int)
structure itv_Itv where
  Lo : Int
  Hi : Int
structure queue_Elem where
  Len : itv_Itv
  Vals : (List itv_Itv)
def e_i64 (x : Int) : List PV := [.int .i64 x]
def e_sl33 (x : (List Int)) : List PV := [.sl (List.map e_i64 x)]
def e_check_Chan (x : check_Chan) : List PV := [.int .i64 x.Kind, .int .i64 x.Size, .int .i64 x.From, .int .i64 x.To, .int .i64 x.Tags, .sl (List.map e_sl33 x.Rule)]
mutual
def e_check_Expr : check_Expr → List PV
  | .mk z_Kind z_Num z_Var z_Kids => [.int .i64 z_Kind, .int .i64 z_Num, .int .i64 z_Var, .sl (e_check_Expr_l z_Kids)]
def e_check_Expr_l : List check_Expr → List (List PV)
  | [] => []
  | x :: xs => e_check_Expr x :: e_check_Expr_l xs
end
theorem e_check_Expr_l_eq : ∀ l, e_check_Expr_l l = List.map e_check_Expr l
  | [] => rfl
  | x :: xs => by rw [e_check_Expr_l, e_check_Expr_l_eq xs]; rfl
theorem e_check_Expr_eq (x : check_Expr) : e_check_Expr x = [.int .i64 x.Kind, .int .i64 x.Num, .int .i64 x.Var, .sl (List.map e_check_Expr x.Kids)] := by
  cases x; rw [e_check_Expr, e_check_Expr_l_eq]
theorem e_check_Expr_len (x : check_Expr) : (e_check_Expr x).length = 4 := by rw [e_check_Expr_eq]; rfl
def e_flow_Edge (x : flow_Edge) : List PV := [.int .i64 x.From, .int .i64 x.To, .int .i64 x.Kind, .int .i64 x.Var, .int .i64 x.Chan, .int .i64 x.Tag, .int .i64 x.E.Kind, .int .i64 x.E.Num, .int .i64 x.E.Var, .sl (List.map e_check_Expr x.E.Kids), .int .i64 x.C.Op, .int .i64 x.C.L.Kind, .int .i64 x.C.L.Num, .int .i64 x.C.L.Var, .sl (List.map e_check_Expr x.C.L.Kids), .int .i64 x.C.R.Kind, .int .i64 x.C.R.Num, .int .i64 x.C.R.Var, .sl (List.map e_check_Expr x.C.R.Kids)]
def e_flow_Graph (x : flow_Graph) : List PV := [.int .i64 x.Nodes, .sl (List.map e_flow_Edge x.Edges), .sl (List.map e_i64 x.Heads)]
def e_itv_Itv (x : itv_Itv) : List PV := [.int .i64 x.Lo, .int .i64 x.Hi]
def e_queue_Elem (x : queue_Elem) : List PV := [.int .i64 x.Len.Lo, .int .i64 x.Len.Hi, .sl (List.map e_itv_Itv x.Vals)]
structure flow_Sys where
  Chans : (List check_Chan)
  Graphs : (List flow_Graph)
  Vars : (List Int)
def e_bool (x : Bool) : List PV := [.bool x]
structure zone_Zone where
  N : Int
  None : Bool
  D : (Nat → (Nat → Int))
structure num_Num where
  None : Bool
  I : (List itv_Itv)
  Z : zone_Zone
structure trans_State where
  N : num_Num
  Counts : (List itv_Itv)
  Rules : (List Int)
structure trans_Sent where
  Chan : Int
  Tag : Int
  Vals : itv_Itv
structure trans_World where
  S : flow_Sys
  Elems : (List queue_Elem)
  Deaf : (List Bool)
structure trans_stepper where
  f_w : trans_World
  f_proc : Int
  f_out : (List Int)
  f_at : Int
  f_e : flow_Edge
  f_a : trans_State
  f_sent : trans_Sent
  f_errors : (Nat → Bool)
structure itv_Errs where
  Overflow : Bool
  DivZero : Bool
structure eval_form where
  f_v : Int
  f_by : Int
def e_zone_Zone (x : zone_Zone) : List PV := [.int .i64 x.N, .bool x.None, .int .i64 ((x.D 0) 0), .int .i64 ((x.D 0) 1), .int .i64 ((x.D 0) 2), .int .i64 ((x.D 0) 3), .int .i64 ((x.D 0) 4), .int .i64 ((x.D 0) 5), .int .i64 ((x.D 0) 6), .int .i64 ((x.D 1) 0), .int .i64 ((x.D 1) 1), .int .i64 ((x.D 1) 2), .int .i64 ((x.D 1) 3), .int .i64 ((x.D 1) 4), .int .i64 ((x.D 1) 5), .int .i64 ((x.D 1) 6), .int .i64 ((x.D 2) 0), .int .i64 ((x.D 2) 1), .int .i64 ((x.D 2) 2), .int .i64 ((x.D 2) 3), .int .i64 ((x.D 2) 4), .int .i64 ((x.D 2) 5), .int .i64 ((x.D 2) 6), .int .i64 ((x.D 3) 0), .int .i64 ((x.D 3) 1), .int .i64 ((x.D 3) 2), .int .i64 ((x.D 3) 3), .int .i64 ((x.D 3) 4), .int .i64 ((x.D 3) 5), .int .i64 ((x.D 3) 6), .int .i64 ((x.D 4) 0), .int .i64 ((x.D 4) 1), .int .i64 ((x.D 4) 2), .int .i64 ((x.D 4) 3), .int .i64 ((x.D 4) 4), .int .i64 ((x.D 4) 5), .int .i64 ((x.D 4) 6), .int .i64 ((x.D 5) 0), .int .i64 ((x.D 5) 1), .int .i64 ((x.D 5) 2), .int .i64 ((x.D 5) 3), .int .i64 ((x.D 5) 4), .int .i64 ((x.D 5) 5), .int .i64 ((x.D 5) 6), .int .i64 ((x.D 6) 0), .int .i64 ((x.D 6) 1), .int .i64 ((x.D 6) 2), .int .i64 ((x.D 6) 3), .int .i64 ((x.D 6) 4), .int .i64 ((x.D 6) 5), .int .i64 ((x.D 6) 6)]
def e_T42 (x : (Nat → (Nat → Int))) : List PV := [.int .i64 ((x 0) 0), .int .i64 ((x 0) 1), .int .i64 ((x 0) 2), .int .i64 ((x 0) 3), .int .i64 ((x 0) 4), .int .i64 ((x 0) 5), .int .i64 ((x 0) 6), .int .i64 ((x 1) 0), .int .i64 ((x 1) 1), .int .i64 ((x 1) 2), .int .i64 ((x 1) 3), .int .i64 ((x 1) 4), .int .i64 ((x 1) 5), .int .i64 ((x 1) 6), .int .i64 ((x 2) 0), .int .i64 ((x 2) 1), .int .i64 ((x 2) 2), .int .i64 ((x 2) 3), .int .i64 ((x 2) 4), .int .i64 ((x 2) 5), .int .i64 ((x 2) 6), .int .i64 ((x 3) 0), .int .i64 ((x 3) 1), .int .i64 ((x 3) 2), .int .i64 ((x 3) 3), .int .i64 ((x 3) 4), .int .i64 ((x 3) 5), .int .i64 ((x 3) 6), .int .i64 ((x 4) 0), .int .i64 ((x 4) 1), .int .i64 ((x 4) 2), .int .i64 ((x 4) 3), .int .i64 ((x 4) 4), .int .i64 ((x 4) 5), .int .i64 ((x 4) 6), .int .i64 ((x 5) 0), .int .i64 ((x 5) 1), .int .i64 ((x 5) 2), .int .i64 ((x 5) 3), .int .i64 ((x 5) 4), .int .i64 ((x 5) 5), .int .i64 ((x 5) 6), .int .i64 ((x 6) 0), .int .i64 ((x 6) 1), .int .i64 ((x 6) 2), .int .i64 ((x 6) 3), .int .i64 ((x 6) 4), .int .i64 ((x 6) 5), .int .i64 ((x 6) 6)]
def e_num_Num (x : num_Num) : List PV := [.bool x.None, .sl (List.map e_itv_Itv x.I), .int .i64 x.Z.N, .bool x.Z.None, .int .i64 ((x.Z.D 0) 0), .int .i64 ((x.Z.D 0) 1), .int .i64 ((x.Z.D 0) 2), .int .i64 ((x.Z.D 0) 3), .int .i64 ((x.Z.D 0) 4), .int .i64 ((x.Z.D 0) 5), .int .i64 ((x.Z.D 0) 6), .int .i64 ((x.Z.D 1) 0), .int .i64 ((x.Z.D 1) 1), .int .i64 ((x.Z.D 1) 2), .int .i64 ((x.Z.D 1) 3), .int .i64 ((x.Z.D 1) 4), .int .i64 ((x.Z.D 1) 5), .int .i64 ((x.Z.D 1) 6), .int .i64 ((x.Z.D 2) 0), .int .i64 ((x.Z.D 2) 1), .int .i64 ((x.Z.D 2) 2), .int .i64 ((x.Z.D 2) 3), .int .i64 ((x.Z.D 2) 4), .int .i64 ((x.Z.D 2) 5), .int .i64 ((x.Z.D 2) 6), .int .i64 ((x.Z.D 3) 0), .int .i64 ((x.Z.D 3) 1), .int .i64 ((x.Z.D 3) 2), .int .i64 ((x.Z.D 3) 3), .int .i64 ((x.Z.D 3) 4), .int .i64 ((x.Z.D 3) 5), .int .i64 ((x.Z.D 3) 6), .int .i64 ((x.Z.D 4) 0), .int .i64 ((x.Z.D 4) 1), .int .i64 ((x.Z.D 4) 2), .int .i64 ((x.Z.D 4) 3), .int .i64 ((x.Z.D 4) 4), .int .i64 ((x.Z.D 4) 5), .int .i64 ((x.Z.D 4) 6), .int .i64 ((x.Z.D 5) 0), .int .i64 ((x.Z.D 5) 1), .int .i64 ((x.Z.D 5) 2), .int .i64 ((x.Z.D 5) 3), .int .i64 ((x.Z.D 5) 4), .int .i64 ((x.Z.D 5) 5), .int .i64 ((x.Z.D 5) 6), .int .i64 ((x.Z.D 6) 0), .int .i64 ((x.Z.D 6) 1), .int .i64 ((x.Z.D 6) 2), .int .i64 ((x.Z.D 6) 3), .int .i64 ((x.Z.D 6) 4), .int .i64 ((x.Z.D 6) 5), .int .i64 ((x.Z.D 6) 6)]
def e_rule_Set (x : Int) : List PV := [.int .u8 x]
def e_trans_State (x : trans_State) : List PV := [.bool x.N.None, .sl (List.map e_itv_Itv x.N.I), .int .i64 x.N.Z.N, .bool x.N.Z.None, .int .i64 ((x.N.Z.D 0) 0), .int .i64 ((x.N.Z.D 0) 1), .int .i64 ((x.N.Z.D 0) 2), .int .i64 ((x.N.Z.D 0) 3), .int .i64 ((x.N.Z.D 0) 4), .int .i64 ((x.N.Z.D 0) 5), .int .i64 ((x.N.Z.D 0) 6), .int .i64 ((x.N.Z.D 1) 0), .int .i64 ((x.N.Z.D 1) 1), .int .i64 ((x.N.Z.D 1) 2), .int .i64 ((x.N.Z.D 1) 3), .int .i64 ((x.N.Z.D 1) 4), .int .i64 ((x.N.Z.D 1) 5), .int .i64 ((x.N.Z.D 1) 6), .int .i64 ((x.N.Z.D 2) 0), .int .i64 ((x.N.Z.D 2) 1), .int .i64 ((x.N.Z.D 2) 2), .int .i64 ((x.N.Z.D 2) 3), .int .i64 ((x.N.Z.D 2) 4), .int .i64 ((x.N.Z.D 2) 5), .int .i64 ((x.N.Z.D 2) 6), .int .i64 ((x.N.Z.D 3) 0), .int .i64 ((x.N.Z.D 3) 1), .int .i64 ((x.N.Z.D 3) 2), .int .i64 ((x.N.Z.D 3) 3), .int .i64 ((x.N.Z.D 3) 4), .int .i64 ((x.N.Z.D 3) 5), .int .i64 ((x.N.Z.D 3) 6), .int .i64 ((x.N.Z.D 4) 0), .int .i64 ((x.N.Z.D 4) 1), .int .i64 ((x.N.Z.D 4) 2), .int .i64 ((x.N.Z.D 4) 3), .int .i64 ((x.N.Z.D 4) 4), .int .i64 ((x.N.Z.D 4) 5), .int .i64 ((x.N.Z.D 4) 6), .int .i64 ((x.N.Z.D 5) 0), .int .i64 ((x.N.Z.D 5) 1), .int .i64 ((x.N.Z.D 5) 2), .int .i64 ((x.N.Z.D 5) 3), .int .i64 ((x.N.Z.D 5) 4), .int .i64 ((x.N.Z.D 5) 5), .int .i64 ((x.N.Z.D 5) 6), .int .i64 ((x.N.Z.D 6) 0), .int .i64 ((x.N.Z.D 6) 1), .int .i64 ((x.N.Z.D 6) 2), .int .i64 ((x.N.Z.D 6) 3), .int .i64 ((x.N.Z.D 6) 4), .int .i64 ((x.N.Z.D 6) 5), .int .i64 ((x.N.Z.D 6) 6), .sl (List.map e_itv_Itv x.Counts), .sl (List.map e_rule_Set x.Rules)]
def e_T92 (x : (Nat → Bool)) : List PV := [.bool (x 0), .bool (x 1), .bool (x 2), .bool (x 3), .bool (x 4), .bool (x 5), .bool (x 6)]
def e_trans_stepper (x : trans_stepper) : List PV := [.sl (List.map e_check_Chan x.f_w.S.Chans), .sl (List.map e_flow_Graph x.f_w.S.Graphs), .sl (List.map e_i64 x.f_w.S.Vars), .sl (List.map e_queue_Elem x.f_w.Elems), .sl (List.map e_bool x.f_w.Deaf), .int .i64 x.f_proc, .sl (List.map e_i64 x.f_out), .int .i64 x.f_at, .int .i64 x.f_e.From, .int .i64 x.f_e.To, .int .i64 x.f_e.Kind, .int .i64 x.f_e.Var, .int .i64 x.f_e.Chan, .int .i64 x.f_e.Tag, .int .i64 x.f_e.E.Kind, .int .i64 x.f_e.E.Num, .int .i64 x.f_e.E.Var, .sl (List.map e_check_Expr x.f_e.E.Kids), .int .i64 x.f_e.C.Op, .int .i64 x.f_e.C.L.Kind, .int .i64 x.f_e.C.L.Num, .int .i64 x.f_e.C.L.Var, .sl (List.map e_check_Expr x.f_e.C.L.Kids), .int .i64 x.f_e.C.R.Kind, .int .i64 x.f_e.C.R.Num, .int .i64 x.f_e.C.R.Var, .sl (List.map e_check_Expr x.f_e.C.R.Kids), .bool x.f_a.N.None, .sl (List.map e_itv_Itv x.f_a.N.I), .int .i64 x.f_a.N.Z.N, .bool x.f_a.N.Z.None, .int .i64 ((x.f_a.N.Z.D 0) 0), .int .i64 ((x.f_a.N.Z.D 0) 1), .int .i64 ((x.f_a.N.Z.D 0) 2), .int .i64 ((x.f_a.N.Z.D 0) 3), .int .i64 ((x.f_a.N.Z.D 0) 4), .int .i64 ((x.f_a.N.Z.D 0) 5), .int .i64 ((x.f_a.N.Z.D 0) 6), .int .i64 ((x.f_a.N.Z.D 1) 0), .int .i64 ((x.f_a.N.Z.D 1) 1), .int .i64 ((x.f_a.N.Z.D 1) 2), .int .i64 ((x.f_a.N.Z.D 1) 3), .int .i64 ((x.f_a.N.Z.D 1) 4), .int .i64 ((x.f_a.N.Z.D 1) 5), .int .i64 ((x.f_a.N.Z.D 1) 6), .int .i64 ((x.f_a.N.Z.D 2) 0), .int .i64 ((x.f_a.N.Z.D 2) 1), .int .i64 ((x.f_a.N.Z.D 2) 2), .int .i64 ((x.f_a.N.Z.D 2) 3), .int .i64 ((x.f_a.N.Z.D 2) 4), .int .i64 ((x.f_a.N.Z.D 2) 5), .int .i64 ((x.f_a.N.Z.D 2) 6), .int .i64 ((x.f_a.N.Z.D 3) 0), .int .i64 ((x.f_a.N.Z.D 3) 1), .int .i64 ((x.f_a.N.Z.D 3) 2), .int .i64 ((x.f_a.N.Z.D 3) 3), .int .i64 ((x.f_a.N.Z.D 3) 4), .int .i64 ((x.f_a.N.Z.D 3) 5), .int .i64 ((x.f_a.N.Z.D 3) 6), .int .i64 ((x.f_a.N.Z.D 4) 0), .int .i64 ((x.f_a.N.Z.D 4) 1), .int .i64 ((x.f_a.N.Z.D 4) 2), .int .i64 ((x.f_a.N.Z.D 4) 3), .int .i64 ((x.f_a.N.Z.D 4) 4), .int .i64 ((x.f_a.N.Z.D 4) 5), .int .i64 ((x.f_a.N.Z.D 4) 6), .int .i64 ((x.f_a.N.Z.D 5) 0), .int .i64 ((x.f_a.N.Z.D 5) 1), .int .i64 ((x.f_a.N.Z.D 5) 2), .int .i64 ((x.f_a.N.Z.D 5) 3), .int .i64 ((x.f_a.N.Z.D 5) 4), .int .i64 ((x.f_a.N.Z.D 5) 5), .int .i64 ((x.f_a.N.Z.D 5) 6), .int .i64 ((x.f_a.N.Z.D 6) 0), .int .i64 ((x.f_a.N.Z.D 6) 1), .int .i64 ((x.f_a.N.Z.D 6) 2), .int .i64 ((x.f_a.N.Z.D 6) 3), .int .i64 ((x.f_a.N.Z.D 6) 4), .int .i64 ((x.f_a.N.Z.D 6) 5), .int .i64 ((x.f_a.N.Z.D 6) 6), .sl (List.map e_itv_Itv x.f_a.Counts), .sl (List.map e_rule_Set x.f_a.Rules), .int .i64 x.f_sent.Chan, .int .i64 x.f_sent.Tag, .int .i64 x.f_sent.Vals.Lo, .int .i64 x.f_sent.Vals.Hi, .bool (x.f_errors 0), .bool (x.f_errors 1), .bool (x.f_errors 2), .bool (x.f_errors 3), .bool (x.f_errors 4), .bool (x.f_errors 5), .bool (x.f_errors 6)]

noncomputable def itv_Empty (a0 : itv_Itv) : Option Bool :=
 some (decide (a0.Lo > a0.Hi))

def r_itv_Empty (r : Bool) : List XV := [.c (.pv (.bool r))]

def o_itv_Empty (r : Bool) : Store := []

noncomputable def itv_None : Option itv_Itv :=
 some (itv_Itv.mk 1 0)

def r_itv_None (r : itv_Itv) : List XV := [.agg [.pv (.int .i64 r.Lo), .pv (.int .i64 r.Hi)]]

def o_itv_None (r : itv_Itv) : Store := []

noncomputable def itv_norm (a0 : itv_Itv) : Option itv_Itv :=
 itv_Empty a0 >>= fun v1 =>
 if v1 then (itv_None >>= fun v2 =>
 some v2)
 else (some a0)

def r_itv_norm (r : itv_Itv) : List XV := [.agg [.pv (.int .i64 r.Lo), .pv (.int .i64 r.Hi)]]

def o_itv_norm (r : itv_Itv) : Store := []

noncomputable def itv_Of (a0 : Int) (a1 : Int) : Option itv_Itv :=
 itv_norm (itv_Itv.mk (max a0 (-2147483648)) (min a1 2147483647)) >>= fun v1 =>
 some v1

def r_itv_Of (r : itv_Itv) : List XV := [.agg [.pv (.int .i64 r.Lo), .pv (.int .i64 r.Hi)]]

def o_itv_Of (r : itv_Itv) : Store := []

noncomputable def itv_Const (a0 : Int) : Option itv_Itv :=
 itv_Of a0 a0 >>= fun v1 =>
 some v1

def r_itv_Const (r : itv_Itv) : List XV := [.agg [.pv (.int .i64 r.Lo), .pv (.int .i64 r.Hi)]]

def o_itv_Const (r : itv_Itv) : Store := []

noncomputable def queue_None_l2 (a0 : check_Chan) (x2 : (Int × (List itv_Itv))) : Option (Sum (Int × (List itv_Itv)) (Sum queue_Elem (List itv_Itv))) :=
 if (decide (x2.1 < a0.Tags)) then (itv_None >>= fun v3 =>
 app 16 x2.2 [v3] >>= fun v4 =>
 some (.inl ((IntKind.i64.wrap (x2.1 + 1)), v4)))
 else (some (.inr (.inr x2.2)))

noncomputable def queue_None (a0 : check_Chan) : Option queue_Elem :=
 itv_Const 0 >>= fun v1 =>
 iter (queue_None_l2 a0) (0, []) >>= Sum.elim (fun _ => none) (fun j2 =>
 some (queue_Elem.mk v1 j2))

def r_queue_None (r : queue_Elem) : List XV := [.agg [.pv (.int .i64 r.Len.Lo), .pv (.int .i64 r.Len.Hi), .pv (.sl (List.map e_itv_Itv r.Vals))]]

def o_queue_None (r : queue_Elem) : Store := []

noncomputable def bits_Mul64 (a0 : Int) (a1 : Int) : Option (Int × Int) :=
 shr .u64 a0 32 >>= fun v1 =>
 shr .u64 a1 32 >>= fun v2 =>
 shr .u64 (IntKind.u64.wrap ((IntKind.u64.wrap (BitVec.ofInt IntKind.u64.bits a0 &&& BitVec.ofInt IntKind.u64.bits 4294967295).toNat) * (IntKind.u64.wrap (BitVec.ofInt IntKind.u64.bits a1 &&& BitVec.ofInt IntKind.u64.bits 4294967295).toNat))) 32 >>= fun v3 =>
 shr .u64 (IntKind.u64.wrap ((IntKind.u64.wrap (v1 * (IntKind.u64.wrap (BitVec.ofInt IntKind.u64.bits a1 &&& BitVec.ofInt IntKind.u64.bits 4294967295).toNat))) + v3)) 32 >>= fun v4 =>
 shr .u64 (IntKind.u64.wrap ((IntKind.u64.wrap (BitVec.ofInt IntKind.u64.bits (IntKind.u64.wrap ((IntKind.u64.wrap (v1 * (IntKind.u64.wrap (BitVec.ofInt IntKind.u64.bits a1 &&& BitVec.ofInt IntKind.u64.bits 4294967295).toNat))) + v3)) &&& BitVec.ofInt IntKind.u64.bits 4294967295).toNat) + (IntKind.u64.wrap ((IntKind.u64.wrap (BitVec.ofInt IntKind.u64.bits a0 &&& BitVec.ofInt IntKind.u64.bits 4294967295).toNat) * v2)))) 32 >>= fun v5 =>
 some ((IntKind.u64.wrap ((IntKind.u64.wrap ((IntKind.u64.wrap (v1 * v2)) + v4)) + v5)), (IntKind.u64.wrap (a0 * a1)))

def r_bits_Mul64 (r : (Int × Int)) : List XV := [.c (.pv (.int .u64 r.1)), .c (.pv (.int .u64 r.2))]

def o_bits_Mul64 (r : (Int × Int)) : Store := []

noncomputable def bits_Mul (a0 : Int) (a1 : Int) : Option (Int × Int) :=
 bits_Mul64 a0 a1 >>= fun v1 =>
 some (v1.1, v1.2)

def r_bits_Mul (r : (Int × Int)) : List XV := [.c (.pv (.int .u64 r.1)), .c (.pv (.int .u64 r.2))]

def o_bits_Mul (r : (Int × Int)) : Store := []

noncomputable def slices_Repeat_bool_bool__l2 (a0 : (List Bool)) (v2 : Nat) (x2 : Unit) : Option (Sum Unit (Sum (List Bool) Unit)) :=
 if (decide ((min (a0.length : Int) ((List.replicate v2 false).length : Int)) < ((cpy (List.replicate v2 false) a0).length : Int))) then (none)
 else (some (.inr (.inr ())))

noncomputable def slices_Repeat_bool_bool_ (a0 : (List Bool)) (a1 : Int) : Option (List Bool) :=
 if (decide (a1 < 0)) then (none)
 else (bits_Mul (IntKind.u64.wrap (a0.length : Int)) (IntKind.u64.wrap a1) >>= fun v1 =>
 ((if (decide (v1.1 > 0)) then (some true)
 else (some (decide (v1.2 > 9223372036854775807))) : Option Bool) >>= fun j1 =>
 if j1 then (none)
 else (mkN 1 (IntKind.i64.wrap v1.2) >>= fun v2 =>
 iter (slices_Repeat_bool_bool__l2 a0 v2) () >>= Sum.elim (fun _ => none) (fun j2 =>
 some (cpy (List.replicate v2 false) a0)))))

def r_slices_Repeat_bool_bool_ (r : (List Bool)) : List XV := [.c (.row 0)]

def o_slices_Repeat_bool_bool_ (r : (List Bool)) : Store := [some (.row true true 4 1 (List.map e_bool r))]

noncomputable def trans_Deaf_l2 (v2 : flow_Graph) (x2 : (Int × (List Bool))) : Option (Sum (Int × (List Bool)) (Sum (List Bool) (List Bool))) :=
 if (decide (x2.1 < (v2.Edges.length : Int))) then (((idx v2.Edges x2.1 >>= fun v3 =>
 ((if (v3.Kind == 4) then (if (decide (v3.Chan ≥ 0)) then (some (decide (v3.Chan < (x2.2.length : Int))))
 else (some false))
 else (some false) : Option Bool) >>= fun j4 =>
 if j4 then (idx x2.2 v3.Chan >>= fun v4 =>
 some (seti x2.2 v3.Chan false))
 else (some x2.2)) : Option (List Bool)) >>= fun j3 =>
 some (.inl ((IntKind.i64.wrap (x2.1 + 1)), j3))))
 else (some (.inr (.inr x2.2)))

noncomputable def trans_Deaf_l1 (a0 : flow_Sys) (x1 : (Int × (List Bool))) : Option (Sum (Int × (List Bool)) (Sum (List Bool) (List Bool))) :=
 if (decide (x1.1 < (a0.Graphs.length : Int))) then (idx a0.Graphs x1.1 >>= fun v2 =>
 iter (trans_Deaf_l2 v2) (0, x1.2) >>= Sum.elim (fun _ => none) (fun j2 =>
 some (.inl ((IntKind.i64.wrap (x1.1 + 1)), j2))))
 else (some (.inr (.inr x1.2)))

noncomputable def trans_Deaf (a0 : flow_Sys) : Option (List Bool) :=
 slices_Repeat_bool_bool_ [true] (a0.Chans.length : Int) >>= fun v1 =>
 iter (trans_Deaf_l1 a0) (0, v1) >>= Sum.elim (fun _ => none) (fun j1 =>
 some j1)

def r_trans_Deaf (r : (List Bool)) : List XV := [.c (.pv (.sl (List.map e_bool r)))]

def o_trans_Deaf (r : (List Bool)) : Store := []

noncomputable def trans_vars (a0 : flow_Sys) (a1 : Int) : Option Int :=
 ((if (decide (a1 < 0)) then (some true)
 else (some (decide (a1 ≥ (a0.Vars.length : Int)))) : Option Bool) >>= fun j1 =>
 if j1 then (some 0)
 else (idx a0.Vars a1 >>= fun v1 =>
 some v1))

def r_trans_vars (r : Int) : List XV := [.c (.pv (.int .i64 r))]

def o_trans_vars (r : Int) : Store := []

noncomputable def zone_Zeros (a0 : Int) : Option zone_Zone :=
 some (zone_Zone.mk (min (max a0 0) 6) false (arr (arr 0 []) [(arr 0 [0, 0, 0, 0, 0, 0, 0]), (arr 0 [0, 0, 0, 0, 0, 0, 0]), (arr 0 [0, 0, 0, 0, 0, 0, 0]), (arr 0 [0, 0, 0, 0, 0, 0, 0]), (arr 0 [0, 0, 0, 0, 0, 0, 0]), (arr 0 [0, 0, 0, 0, 0, 0, 0]), (arr 0 [0, 0, 0, 0, 0, 0, 0])]))

def r_zone_Zeros (r : zone_Zone) : List XV := [.agg (bs (e_zone_Zone r))]

def o_zone_Zeros (r : zone_Zone) : Store := []

noncomputable def zone_count (a0 : Int) : Option Bool :=
 ((if (decide (a0 ≥ 0)) then (some (decide (a0 ≤ 6)))
 else (some false) : Option Bool) >>= fun j1 =>
 some j1)

def r_zone_count (r : Bool) : List XV := [.c (.pv (.bool r))]

def o_zone_count (r : Bool) : Store := []

noncomputable def zone_variable (a0 : zone_Zone) (a1 : Int) : Option Bool :=
 ((zone_count a0.N >>= fun v1 =>
 if v1 then (if (!a0.None) then (if (decide (a1 ≥ 0)) then (some (decide (a1 < a0.N)))
 else (some false))
 else (some false))
 else (some false) : Option Bool) >>= fun j1 =>
 some j1)

def r_zone_variable (r : Bool) : List XV := [.c (.pv (.bool r))]

def o_zone_variable (r : Bool) : Store := []

noncomputable def zone_Itv (a0 : zone_Zone) (a1 : Int) : Option itv_Itv :=
 zone_variable a0 a1 >>= fun v1 =>
 if (!v1) then (itv_None >>= fun v2 =>
 some v2)
 else (inA 7 (IntKind.i64.wrap (a1 + 1)) >>= fun v3 =>
 inA 7 (IntKind.i64.wrap (a1 + 1)) >>= fun v4 =>
 itv_Of (IntKind.i64.wrap (0 - ((a0.D 0) v3))) ((a0.D v4) 0) >>= fun v6 =>
 some v6)

def r_zone_Itv (r : itv_Itv) : List XV := [.agg [.pv (.int .i64 r.Lo), .pv (.int .i64 r.Hi)]]

def o_zone_Itv (r : itv_Itv) : Store := []

noncomputable def num_of_l2 (a0 : zone_Zone) (x2 : (Int × num_Num × (List itv_Itv))) : Option (Sum (Int × num_Num × (List itv_Itv)) (Sum num_Num (num_Num × (List itv_Itv)))) :=
 if (decide (x2.1 < (min (max a0.N 0) 6))) then (zone_Itv a0 x2.1 >>= fun v2 =>
 app 16 x2.2.2 [v2] >>= fun v3 =>
 some (num_Num.mk x2.2.1.None v3 x2.2.1.Z) >>= fun v4 =>
 some (.inl ((IntKind.i64.wrap (x2.1 + 1)), (num_Num.mk v4.None v3 v4.Z), v3)))
 else (some (.inr (.inr ((num_Num.mk x2.2.1.None x2.2.2 x2.2.1.Z), x2.2.2))))

noncomputable def num_of (a0 : zone_Zone) : Option num_Num :=
 iter (num_of_l2 a0) (0, (num_Num.mk a0.None [] a0), []) >>= Sum.elim (fun _ => none) (fun j2 =>
 some (num_Num.mk j2.1.None j2.2 j2.1.Z))

def r_num_of (r : num_Num) : List XV := [.agg (bs (e_num_Num r))]

def o_num_of (r : num_Num) : Store := []

noncomputable def num_Zeros (a0 : Int) : Option num_Num :=
 zone_Zeros a0 >>= fun v1 =>
 num_of v1 >>= fun v2 =>
 some v2

def r_num_Zeros (r : num_Num) : List XV := [.agg (bs (e_num_Num r))]

def o_num_Zeros (r : num_Num) : Store := []

noncomputable def rule_Start : Option Int :=
 some 1

def r_rule_Start (r : Int) : List XV := [.c (.pv (.int .u8 r))]

def o_rule_Start (r : Int) : Store := []

noncomputable def trans_Start_l3 (a0 : flow_Sys) (x3 : (Int × trans_State × (List itv_Itv) × (List Int))) : Option (Sum (Int × trans_State × (List itv_Itv) × (List Int)) (Sum trans_State (trans_State × (List itv_Itv) × (List Int)))) :=
 if (decide (x3.1 < (a0.Chans.length : Int))) then (itv_Const 0 >>= fun v4 =>
 app 16 x3.2.2.1 [v4] >>= fun v5 =>
 rule_Start >>= fun v7 =>
 app 1 x3.2.2.2 [v7] >>= fun v8 =>
 some (trans_State.mk x3.2.1.N v5 v8) >>= fun v9 =>
 some (.inl ((IntKind.i64.wrap (x3.1 + 1)), (trans_State.mk v9.N v5 v8), v5, v8)))
 else (some (.inr (.inr ((trans_State.mk x3.2.1.N x3.2.2.1 x3.2.2.2), x3.2.2.1, x3.2.2.2))))

noncomputable def trans_Start (a0 : flow_Sys) (a1 : Int) : Option trans_State :=
 trans_vars a0 a1 >>= fun v1 =>
 num_Zeros v1 >>= fun v2 =>
 iter (trans_Start_l3 a0) (0, (trans_State.mk v2 [] []), [], []) >>= Sum.elim (fun _ => none) (fun j3 =>
 some (trans_State.mk j3.1.N j3.2.1 j3.2.2))

def r_trans_Start (r : trans_State) : List XV := [.agg (bs (e_trans_State r))]

def o_trans_Start (r : trans_State) : Store := []

noncomputable def trans_Empty (a0 : trans_State) : Option Bool :=
 some a0.N.None

def r_trans_Empty (r : Bool) : List XV := [.c (.pv (.bool r))]

def o_trans_Empty (r : Bool) : Store := []

noncomputable def num_None (a0 : Int) : Option num_Num :=
 num_of (zone_Zone.mk (min (max a0 0) 6) true (arr (arr 0 []) [(arr 0 [0, 0, 0, 0, 0, 0, 0]), (arr 0 [0, 0, 0, 0, 0, 0, 0]), (arr 0 [0, 0, 0, 0, 0, 0, 0]), (arr 0 [0, 0, 0, 0, 0, 0, 0]), (arr 0 [0, 0, 0, 0, 0, 0, 0]), (arr 0 [0, 0, 0, 0, 0, 0, 0]), (arr 0 [0, 0, 0, 0, 0, 0, 0])])) >>= fun v1 =>
 some v1

def r_num_None (r : num_Num) : List XV := [.agg (bs (e_num_Num r))]

def o_num_None (r : num_Num) : Store := []

noncomputable def trans_None_l3 (a0 : flow_Sys) (x3 : (Int × trans_State × (List itv_Itv) × (List Int))) : Option (Sum (Int × trans_State × (List itv_Itv) × (List Int)) (Sum trans_State (trans_State × (List itv_Itv) × (List Int)))) :=
 if (decide (x3.1 < (a0.Chans.length : Int))) then (itv_None >>= fun v4 =>
 app 16 x3.2.2.1 [v4] >>= fun v5 =>
 app 1 x3.2.2.2 [0] >>= fun v6 =>
 some (trans_State.mk x3.2.1.N v5 v6) >>= fun v7 =>
 some (.inl ((IntKind.i64.wrap (x3.1 + 1)), (trans_State.mk v7.N v5 v6), v5, v6)))
 else (some (.inr (.inr ((trans_State.mk x3.2.1.N x3.2.2.1 x3.2.2.2), x3.2.2.1, x3.2.2.2))))

noncomputable def trans_None (a0 : flow_Sys) (a1 : Int) : Option trans_State :=
 trans_vars a0 a1 >>= fun v1 =>
 num_None v1 >>= fun v2 =>
 iter (trans_None_l3 a0) (0, (trans_State.mk v2 [] []), [], []) >>= Sum.elim (fun _ => none) (fun j3 =>
 some (trans_State.mk j3.1.N j3.2.1 j3.2.2))

def r_trans_None (r : trans_State) : List XV := [.agg (bs (e_trans_State r))]

def o_trans_None (r : trans_State) : Store := []

noncomputable def flow_Out_l2 (a0 : flow_Graph) (a1 : Int) (x2 : (Int × (List Int))) : Option (Sum (Int × (List Int)) (Sum (List Int) (List Int))) :=
 if (decide (x2.1 < (a0.Edges.length : Int))) then (((idx a0.Edges x2.1 >>= fun v1 =>
 if (v1.From == a1) then (app 8 x2.2 [x2.1] >>= fun v2 =>
 some v2)
 else (some x2.2) : Option (List Int)) >>= fun j3 =>
 some (.inl ((IntKind.i64.wrap (x2.1 + 1)), j3))))
 else (some (.inr (.inr x2.2)))

noncomputable def flow_Out (a0 : flow_Graph) (a1 : Int) : Option (List Int) :=
 iter (flow_Out_l2 a0 a1) (0, []) >>= Sum.elim (fun _ => none) (fun j2 =>
 some j2)

def r_flow_Out (r : (List Int)) : List XV := [.c (.pv (.sl (List.map e_i64 r)))]

def o_flow_Out (r : (List Int)) : Store := []

noncomputable def itv_Itv_ (a0 : (List itv_Itv)) : Option (List itv_Itv) :=
 app 16 [] a0 >>= fun v1 =>
 some v1

def r_itv_Itv_ (r : (List itv_Itv)) : List XV := [.c (.row 0)]

def o_itv_Itv_ (r : (List itv_Itv)) : Store := [some (.row true true 53 2 (List.map e_itv_Itv r))]

noncomputable def rule_Set_ (a0 : (List Int)) : Option (List Int) :=
 app 1 [] a0 >>= fun v1 =>
 some v1

def r_rule_Set_ (r : (List Int)) : List XV := [.c (.row 0)]

def o_rule_Set_ (r : (List Int)) : Store := [some (.row true true 85 1 (List.map e_rule_Set r))]

noncomputable def trans_copied (a0 : trans_State) : Option trans_State :=
 itv_Itv_ a0.Counts >>= fun v4 =>
 rule_Set_ a0.Rules >>= fun v6 =>
 some (trans_State.mk a0.N v4 v6)

def r_trans_copied (r : trans_State) : List XV := [.agg ([.pv (.bool r.N.None), .pv (.sl (List.map e_itv_Itv r.N.I)), .pv (.int .i64 r.N.Z.N), .pv (.bool r.N.Z.None)] ++ (bs (e_T42 r.N.Z.D) ++ [.row 0, .row 1]))]

def o_trans_copied (r : trans_State) : Store := [some (.row true true 53 2 (List.map e_itv_Itv r.Counts)), some (.row true true 85 1 (List.map e_rule_Set r.Rules))]

noncomputable def itv_All : Option itv_Itv :=
 some (itv_Itv.mk (-2147483648) 2147483647)

def r_itv_All (r : itv_Itv) : List XV := [.agg [.pv (.int .i64 r.Lo), .pv (.int .i64 r.Hi)]]

def o_itv_All (r : itv_Itv) : Store := []

noncomputable def itv_Meet (a0 : itv_Itv) (a1 : itv_Itv) : Option itv_Itv :=
 ((itv_Empty a0 >>= fun v1 =>
 if v1 then (some true)
 else (itv_Empty a1 >>= fun v2 =>
 some v2) : Option Bool) >>= fun j1 =>
 if j1 then (itv_None >>= fun v3 =>
 some v3)
 else (itv_norm (itv_Itv.mk (max a0.Lo a1.Lo) (min a0.Hi a1.Hi)) >>= fun v4 =>
 some v4))

def r_itv_Meet (r : itv_Itv) : List XV := [.agg [.pv (.int .i64 r.Lo), .pv (.int .i64 r.Hi)]]

def o_itv_Meet (r : itv_Itv) : Store := []

noncomputable def itv_cut (a0 : Int) (a1 : Int) : Option (itv_Itv × itv_Errs) :=
 ((itv_Of a0 a1 >>= fun v1 =>
 if (decide (a0 < (-2147483648))) then (some (v1.Lo, v1.Hi, true))
 else (some (v1.Lo, v1.Hi, (decide (a1 > 2147483647)))) : Option (Int × Int × Bool)) >>= fun j1 =>
 some ((itv_Itv.mk j1.1 j1.2.1), (itv_Errs.mk j1.2.2 false)))

def r_itv_cut (r : (itv_Itv × itv_Errs)) : List XV := [.agg [.pv (.int .i64 r.1.Lo), .pv (.int .i64 r.1.Hi)], .agg [.pv (.bool r.2.Overflow), .pv (.bool r.2.DivZero)]]

def o_itv_cut (r : (itv_Itv × itv_Errs)) : Store := []

noncomputable def itv_Do_1 (a0 : Int) (a1 : Int) : Option Int :=
 some (IntKind.i64.wrap (a0 * a1))

def r_itv_Do_1 (r : Int) : List XV := [.c (.pv (.int .i64 r))]

def o_itv_Do_1 (r : Int) : Store := []

noncomputable def itv_corners_itv_Do_1 (a1 : itv_Itv) (a2 : itv_Itv) : Option (Int × Int) :=
 itv_Do_1 a1.Lo a2.Lo >>= fun v2 =>
 itv_Do_1 a1.Lo a2.Hi >>= fun v4 =>
 itv_Do_1 a1.Hi a2.Lo >>= fun v6 =>
 itv_Do_1 a1.Hi a2.Hi >>= fun v8 =>
 some ((min (min (min v2 v4) v6) v8), (max (max (max v2 v4) v6) v8))

def r_itv_corners_itv_Do_1 (r : (Int × Int)) : List XV := [.c (.pv (.int .i64 r.1)), .c (.pv (.int .i64 r.2))]

def o_itv_corners_itv_Do_1 (r : (Int × Int)) : Store := []

noncomputable def itv_Has (a0 : itv_Itv) (a1 : Int) : Option Bool :=
 ((if (decide (a0.Lo ≤ a1)) then (some (decide (a1 ≤ a0.Hi)))
 else (some false) : Option Bool) >>= fun j1 =>
 some j1)

def r_itv_Has (r : Bool) : List XV := [.c (.pv (.bool r))]

def o_itv_Has (r : Bool) : Store := []

noncomputable def itv_rest (a0 : itv_Itv) (a1 : itv_Itv) : Option itv_Itv :=
 ((if (a0.Lo == a0.Hi) then (some (a1.Lo == a1.Hi))
 else (some false) : Option Bool) >>= fun j1 =>
 if j1 then (rem a0.Lo a1.Lo >>= fun v1 =>
 itv_Const v1 >>= fun v2 =>
 some v2)
 else (itv_Of (max (min a0.Lo 0) (IntKind.i64.wrap (0 - (IntKind.i64.wrap ((max (max (max (IntKind.i64.wrap (0 - a1.Lo)) a1.Hi) a1.Lo) (IntKind.i64.wrap (0 - a1.Hi))) - 1))))) (min (max a0.Hi 0) (IntKind.i64.wrap ((max (max (max (IntKind.i64.wrap (0 - a1.Lo)) a1.Hi) a1.Lo) (IntKind.i64.wrap (0 - a1.Hi))) - 1))) >>= fun v3 =>
 some v3))

def r_itv_rest (r : itv_Itv) : List XV := [.agg [.pv (.int .i64 r.Lo), .pv (.int .i64 r.Hi)]]

def o_itv_rest (r : itv_Itv) : Store := []

noncomputable def itv_quotient_1 (a0 : Int) (a1 : Int) : Option Int :=
 quo .i64 a0 a1 >>= fun v1 =>
 some v1

def r_itv_quotient_1 (r : Int) : List XV := [.c (.pv (.int .i64 r))]

def o_itv_quotient_1 (r : Int) : Store := []

noncomputable def itv_corners_itv_quotient_1 (a1 : itv_Itv) (a2 : itv_Itv) : Option (Int × Int) :=
 itv_quotient_1 a1.Lo a2.Lo >>= fun v2 =>
 itv_quotient_1 a1.Lo a2.Hi >>= fun v4 =>
 itv_quotient_1 a1.Hi a2.Lo >>= fun v6 =>
 itv_quotient_1 a1.Hi a2.Hi >>= fun v8 =>
 some ((min (min (min v2 v4) v6) v8), (max (max (max v2 v4) v6) v8))

def r_itv_corners_itv_quotient_1 (r : (Int × Int)) : List XV := [.c (.pv (.int .i64 r.1)), .c (.pv (.int .i64 r.2))]

def o_itv_corners_itv_quotient_1 (r : (Int × Int)) : Store := []

noncomputable def itv_Join (a0 : itv_Itv) (a1 : itv_Itv) : Option itv_Itv :=
 itv_Empty a0 >>= fun v1 =>
 if v1 then (itv_norm a1 >>= fun v2 =>
 some v2)
 else (itv_Empty a1 >>= fun v3 =>
 if v3 then (some a0)
 else (some (itv_Itv.mk (min a0.Lo a1.Lo) (max a0.Hi a1.Hi))))

def r_itv_Join (r : itv_Itv) : List XV := [.agg [.pv (.int .i64 r.Lo), .pv (.int .i64 r.Hi)]]

def o_itv_Join (r : itv_Itv) : Store := []

noncomputable def itv_quotient_l1 (a0 : itv_Itv) (v5 : itv_Itv) (v9 : itv_Itv) (x1 : (Bool × Int × Int × Int)) : Option (Sum (Bool × Int × Int × Int) (Sum (itv_Itv × itv_Errs) (Bool × Int × Int))) :=
 if (decide (x1.2.1 < ([v5, v9].length : Int))) then (((idx [v5, v9] x1.2.1 >>= fun v10 =>
 itv_Empty v10 >>= fun v11 =>
 if v11 then (some (x1.1, x1.2.2.1, x1.2.2.2))
 else (itv_corners_itv_quotient_1 a0 v10 >>= fun v12 =>
 itv_cut v12.1 v12.2 >>= fun v13 =>
 itv_Join (itv_Itv.mk x1.2.2.1 x1.2.2.2) v13.1 >>= fun v15 =>
 if x1.1 then (some (true, v15.Lo, v15.Hi))
 else (some (v13.2.Overflow, v15.Lo, v15.Hi))) : Option (Bool × Int × Int)) >>= fun j2 =>
 some (.inl (j2.1, (IntKind.i64.wrap (x1.2.1 + 1)), j2.2.1, j2.2.2))))
 else (some (.inr (.inr (x1.1, x1.2.2.1, x1.2.2.2))))

noncomputable def itv_quotient (a0 : itv_Itv) (a1 : itv_Itv) : Option (itv_Itv × itv_Errs) :=
 itv_None >>= fun v1 =>
 itv_Of (-2147483648) (-1) >>= fun v3 =>
 itv_Meet a1 v3 >>= fun v5 =>
 itv_Of 1 2147483647 >>= fun v7 =>
 itv_Meet a1 v7 >>= fun v9 =>
 iter (itv_quotient_l1 a0 v5 v9) (false, 0, v1.Lo, v1.Hi) >>= Sum.elim (fun _ => none) (fun j1 =>
 some ((itv_Itv.mk j1.2.1 j1.2.2), (itv_Errs.mk j1.1 false)))

def r_itv_quotient (r : (itv_Itv × itv_Errs)) : List XV := [.agg [.pv (.int .i64 r.1.Lo), .pv (.int .i64 r.1.Hi)], .agg [.pv (.bool r.2.Overflow), .pv (.bool r.2.DivZero)]]

def o_itv_quotient (r : (itv_Itv × itv_Errs)) : Store := []

noncomputable def itv_divided (a0 : Int) (a1 : itv_Itv) (a2 : itv_Itv) : Option (itv_Itv × itv_Errs) :=
 itv_Has a2 0 >>= fun v1 =>
 itv_Const 0 >>= fun v3 =>
 if ((a2.Lo : Int) == v3.Lo && ((a2.Hi : Int) == v3.Hi && true)) then (itv_None >>= fun v4 =>
 some (v4, (itv_Errs.mk false true)))
 else (if (a0 == 8) then (itv_rest a1 a2 >>= fun v5 =>
 some (v5, (itv_Errs.mk false v1)))
 else (itv_quotient a1 a2 >>= fun v6 =>
 some (v6.1, (itv_Errs.mk v6.2.Overflow v1))))

def r_itv_divided (r : (itv_Itv × itv_Errs)) : List XV := [.agg [.pv (.int .i64 r.1.Lo), .pv (.int .i64 r.1.Hi)], .agg [.pv (.bool r.2.Overflow), .pv (.bool r.2.DivZero)]]

def o_itv_divided (r : (itv_Itv × itv_Errs)) : Store := []

noncomputable def itv_Do (a0 : Int) (a1 : itv_Itv) (a2 : itv_Itv) : Option (itv_Itv × itv_Errs) :=
 ((itv_Empty a1 >>= fun v1 =>
 if v1 then (some true)
 else (itv_Empty a2 >>= fun v2 =>
 some v2) : Option Bool) >>= fun j1 =>
 if j1 then (itv_None >>= fun v3 =>
 some (v3, (itv_Errs.mk false false)))
 else (itv_All >>= fun v5 =>
 itv_Meet a1 v5 >>= fun v7 =>
 itv_All >>= fun v9 =>
 itv_Meet a2 v9 >>= fun v11 =>
 ((itv_Empty v7 >>= fun v12 =>
 if v12 then (some true)
 else (itv_Empty v11 >>= fun v13 =>
 some v13) : Option Bool) >>= fun j2 =>
 if j2 then (itv_None >>= fun v14 =>
 some (v14, (itv_Errs.mk false false)))
 else (if (a0 == 4) then (itv_cut (IntKind.i64.wrap (v7.Lo + v11.Lo)) (IntKind.i64.wrap (v7.Hi + v11.Hi)) >>= fun v15 =>
 some (v15.1, v15.2))
 else (if (a0 == 5) then (itv_cut (IntKind.i64.wrap (v7.Lo - v11.Hi)) (IntKind.i64.wrap (v7.Hi - v11.Lo)) >>= fun v16 =>
 some (v16.1, v16.2))
 else (if (a0 == 6) then (itv_corners_itv_Do_1 v7 v11 >>= fun v17 =>
 itv_cut v17.1 v17.2 >>= fun v18 =>
 some (v18.1, v18.2))
 else (((if (a0 == 7) then (some (a0 == 7))
 else (some (a0 == 8)) : Option Bool) >>= fun j3 =>
 if j3 then (itv_divided a0 v7 v11 >>= fun v19 =>
 some (v19.1, v19.2))
 else (itv_None >>= fun v20 =>
 some (v20, (itv_Errs.mk false false)))))))))))

def r_itv_Do (r : (itv_Itv × itv_Errs)) : List XV := [.agg [.pv (.int .i64 r.1.Lo), .pv (.int .i64 r.1.Hi)], .agg [.pv (.bool r.2.Overflow), .pv (.bool r.2.DivZero)]]

def o_itv_Do (r : (itv_Itv × itv_Errs)) : Store := []

noncomputable def itv_Neg (a0 : itv_Itv) : Option (itv_Itv × itv_Errs) :=
 itv_Const 0 >>= fun v2 =>
 itv_Do 5 v2 a0 >>= fun v4 =>
 some (v4.1, v4.2)

def r_itv_Neg (r : (itv_Itv × itv_Errs)) : List XV := [.agg [.pv (.int .i64 r.1.Lo), .pv (.int .i64 r.1.Hi)], .agg [.pv (.bool r.2.Overflow), .pv (.bool r.2.DivZero)]]

def o_itv_Neg (r : (itv_Itv × itv_Errs)) : Store := []

noncomputable def eval_either (a0 : itv_Errs) (a1 : itv_Errs) : Option itv_Errs :=
 ((if a0.Overflow then (if a0.DivZero then (some (true, true))
 else (some (true, a1.DivZero)))
 else (if a0.DivZero then (some (a1.Overflow, true))
 else (some (a1.Overflow, a1.DivZero))) : Option (Bool × Bool)) >>= fun j1 =>
 some (itv_Errs.mk j1.1 j1.2))

def r_eval_either (r : itv_Errs) : List XV := [.agg [.pv (.bool r.Overflow), .pv (.bool r.DivZero)]]

def o_eval_either (r : itv_Errs) : Store := []

def r_eval_Eval (r : (itv_Itv × itv_Errs)) : List XV := [.agg [.pv (.int .i64 r.1.Lo), .pv (.int .i64 r.1.Hi)], .agg [.pv (.bool r.2.Overflow), .pv (.bool r.2.DivZero)]]

def o_eval_Eval (r : (itv_Itv × itv_Errs)) : Store := []

def r_eval_two (r : (itv_Itv × itv_Errs)) : List XV := [.agg [.pv (.int .i64 r.1.Lo), .pv (.int .i64 r.1.Hi)], .agg [.pv (.bool r.2.Overflow), .pv (.bool r.2.DivZero)]]

def o_eval_two (r : (itv_Itv × itv_Errs)) : Store := []

mutual
noncomputable def eval_EvalN : Nat → check_Expr → num_Num → Option (itv_Itv × itv_Errs)
  | 0, _, _ => none
  | n + 1, a0, a1 => ((if a1.None then (some (.inr ()))
 else (if (a0.Kind == 1) then (itv_Const a0.Num >>= fun v1 =>
 some (.inl (v1, (itv_Errs.mk false false))))
 else (((if (a0.Kind == 2) then (if (decide (a0.Var ≥ 0)) then (some (decide (a0.Var < (a1.I.length : Int))))
 else (some false))
 else (some false) : Option Bool) >>= fun j2 =>
 if j2 then (idx a1.I a0.Var >>= fun v2 =>
 some (.inl (v2, (itv_Errs.mk false false))))
 else (((if (a0.Kind == 3) then (some ((a0.Kids.length : Int) == 1))
 else (some false) : Option Bool) >>= fun j3 =>
 if j3 then (idx a0.Kids 0 >>= fun v3 =>
 (eval_EvalN n) v3 a1 >>= fun v5 =>
 itv_Neg v5.1 >>= fun v6 =>
 eval_either v5.2 v6.2 >>= fun v8 =>
 some (.inl (v6.1, v8)))
 else (((if (decide (a0.Kind ≥ 4)) then (if (decide (a0.Kind ≤ 8)) then (some ((a0.Kids.length : Int) == 2))
 else (some false))
 else (some false) : Option Bool) >>= fun j4 =>
 if j4 then ((eval_twoN n) a0 a1 >>= fun v9 =>
 some (.inl (v9.1, v9.2)))
 else (some (.inr ()))))))))) : Option (Sum (itv_Itv × itv_Errs) Unit)) >>= Sum.elim (fun r => some r) (fun j1 =>
 itv_None >>= fun v10 =>
 some (v10, (itv_Errs.mk false false))))
noncomputable def eval_twoN : Nat → check_Expr → num_Num → Option (itv_Itv × itv_Errs)
  | 0, _, _ => none
  | n + 1, a0, a1 => idx a0.Kids 0 >>= fun v1 =>
 (eval_EvalN n) v1 a1 >>= fun v3 =>
 itv_Empty v3.1 >>= fun v4 =>
 if v4 then (some (v3.1, v3.2))
 else (idx a0.Kids 1 >>= fun v5 =>
 (eval_EvalN n) v5 a1 >>= fun v7 =>
 eval_either v3.2 v7.2 >>= fun v8 =>
 itv_Do a0.Kind v3.1 v7.1 >>= fun v9 =>
 eval_either v8 v9.2 >>= fun v11 =>
 some (v9.1, v11))
end

noncomputable def eval_Eval (a0 : check_Expr) (a1 : num_Num) : Option (itv_Itv × itv_Errs) := unf fun n => eval_EvalN n a0 a1

noncomputable def eval_two (a0 : check_Expr) (a1 : num_Num) : Option (itv_Itv × itv_Errs) := unf fun n => eval_twoN n a0 a1

def r_eval_linear (r : (eval_form × Bool)) : List XV := [.agg [.pv (.int .i64 r.1.f_v), .pv (.int .i64 r.1.f_by)], .c (.pv (.bool r.2))]

def o_eval_linear (r : (eval_form × Bool)) : Store := []

def r_eval_pair (r : (eval_form × Bool)) : List XV := [.agg [.pv (.int .i64 r.1.f_v), .pv (.int .i64 r.1.f_by)], .c (.pv (.bool r.2))]

def o_eval_pair (r : (eval_form × Bool)) : Store := []

mutual
noncomputable def eval_linearN : Nat → check_Expr → Option (eval_form × Bool)
  | 0, _ => none
  | n + 1, a0 => ((((if (a0.Kind == 1) then (some ((a0.Kids.length : Int) == 0))
 else (some false) : Option Bool) >>= fun j2 =>
 if j2 then (some (true, (-1), a0.Num))
 else (((if (a0.Kind == 2) then (some ((a0.Kids.length : Int) == 0))
 else (some false) : Option Bool) >>= fun j3 =>
 if j3 then (some (true, a0.Var, 0))
 else (((if (a0.Kind == 4) then (some ((a0.Kids.length : Int) == 2))
 else (if (a0.Kind == 5) then (some ((a0.Kids.length : Int) == 2))
 else (some false)) : Option Bool) >>= fun j4 =>
 if j4 then ((eval_pairN n) a0 >>= fun v1 =>
 some (v1.2, v1.1.f_v, v1.1.f_by))
 else (some (false, (-1), 0))))))) : Option (Bool × Int × Int)) >>= fun j1 =>
 ((if j1.1 then (if (decide (j1.2.2 ≤ 1099511627776)) then (some (decide (j1.2.2 ≥ (-1099511627776))))
 else (some false))
 else (some false) : Option Bool) >>= fun j5 =>
 some ((eval_form.mk j1.2.1 j1.2.2), j5)))
noncomputable def eval_pairN : Nat → check_Expr → Option (eval_form × Bool)
  | 0, _ => none
  | n + 1, a0 => idx a0.Kids 0 >>= fun v1 =>
 (eval_linearN n) v1 >>= fun v2 =>
 idx a0.Kids 1 >>= fun v3 =>
 (eval_linearN n) v3 >>= fun v4 =>
 ((if (!v2.2) then (some true)
 else (some (!v4.2)) : Option Bool) >>= fun j1 =>
 if j1 then (some ((eval_form.mk 0 0), false))
 else (((if (v4.1.f_v != (-1)) then (if (a0.Kind == 5) then (some true)
 else (some (v2.1.f_v != (-1))))
 else (some false) : Option Bool) >>= fun j2 =>
 if j2 then (some ((eval_form.mk 0 0), false))
 else (if (a0.Kind == 5) then (some ((eval_form.mk v2.1.f_v (IntKind.i64.wrap (v2.1.f_by - v4.1.f_by))), true))
 else (some ((eval_form.mk (max v2.1.f_v v4.1.f_v) (IntKind.i64.wrap (v2.1.f_by + v4.1.f_by))), true))))))
end

noncomputable def eval_linear (a0 : check_Expr) : Option (eval_form × Bool) := unf fun n => eval_linearN n a0

noncomputable def eval_pair (a0 : check_Expr) : Option (eval_form × Bool) := unf fun n => eval_pairN n a0

noncomputable def eval_Linear (a0 : check_Expr) : Option (Int × Int × Bool) :=
 eval_linear a0 >>= fun v1 =>
 if (!v1.2) then (some (0, 0, false))
 else (some (v1.1.f_v, v1.1.f_by, true))

def r_eval_Linear (r : (Int × Int × Bool)) : List XV := [.c (.pv (.int .i64 r.1)), .c (.pv (.int .i64 r.2.1)), .c (.pv (.bool r.2.2))]

def o_eval_Linear (r : (Int × Int × Bool)) : Store := []

noncomputable def zone_orNought (a0 : zone_Zone) (a1 : Int) : Option Bool :=
 ((if (a1 == (-1)) then (zone_count a0.N >>= fun v1 =>
 if v1 then (if (!a0.None) then (some true)
 else (zone_variable a0 a1 >>= fun v2 =>
 some v2))
 else (zone_variable a0 a1 >>= fun v3 =>
 some v3))
 else (zone_variable a0 a1 >>= fun v4 =>
 some v4) : Option Bool) >>= fun j1 =>
 some j1)

def r_zone_orNought (r : Bool) : List XV := [.c (.pv (.bool r))]

def o_zone_orNought (r : Bool) : Store := []

noncomputable def zone_Zone_own_l1 (x1 : (Int × zone_Zone)) : Option (Sum (Int × zone_Zone) (Sum zone_Zone zone_Zone)) :=
 if (decide (x1.1 ≤ x1.2.N)) then (inA 7 x1.1 >>= fun v1 =>
 inA 7 x1.1 >>= fun v2 =>
 some (upd2 x1.2.D v2 0 (min ((x1.2.D v1) 0) 2147483647)) >>= fun v3 =>
 inA 7 x1.1 >>= fun v4 =>
 inA 7 x1.1 >>= fun v5 =>
 some (upd2 v3 0 v5 (min ((v3 0) v4) 2147483648)) >>= fun v6 =>
 some (.inl ((IntKind.i64.wrap (x1.1 + 1)), (zone_Zone.mk x1.2.N x1.2.None v6))))
 else (some (.inr (.inr x1.2)))

noncomputable def zone_Zone_own (a0 : zone_Zone) : Option zone_Zone :=
 iter (zone_Zone_own_l1) (1, a0) >>= Sum.elim (fun _ => none) (fun j1 =>
 some j1)

def r_zone_Zone_own (r : zone_Zone) : List XV := []

def o_zone_Zone_own (r : zone_Zone) : Store := [some (.box true 44 (bs (e_zone_Zone r)))]

noncomputable def zone_none (a0 : Int) : Option zone_Zone :=
 some (zone_Zone.mk a0 true (arr (arr 0 []) [(arr 0 [0, 0, 0, 0, 0, 0, 0]), (arr 0 [0, 0, 0, 0, 0, 0, 0]), (arr 0 [0, 0, 0, 0, 0, 0, 0]), (arr 0 [0, 0, 0, 0, 0, 0, 0]), (arr 0 [0, 0, 0, 0, 0, 0, 0]), (arr 0 [0, 0, 0, 0, 0, 0, 0]), (arr 0 [0, 0, 0, 0, 0, 0, 0])]))

def r_zone_none (r : zone_Zone) : List XV := [.agg (bs (e_zone_Zone r))]

def o_zone_none (r : zone_Zone) : Store := []

noncomputable def zone_Zone_close_l4 (x2 : (Int × zone_Zone)) (x3 : (Int × zone_Zone)) (x4 : (Int × zone_Zone)) : Option (Sum (Int × zone_Zone) (Sum zone_Zone zone_Zone)) :=
 if (decide (x4.1 ≤ x4.2.N)) then (inA 7 x3.1 >>= fun v3 =>
 inA 7 x4.1 >>= fun v4 =>
 inA 7 x3.1 >>= fun v5 =>
 inA 7 x2.1 >>= fun v6 =>
 inA 7 x2.1 >>= fun v7 =>
 inA 7 x4.1 >>= fun v8 =>
 inA 7 x3.1 >>= fun v9 =>
 inA 7 x4.1 >>= fun v10 =>
 some (upd2 x4.2.D v9 v10 (min ((x4.2.D v3) v4) (IntKind.i64.wrap (((x4.2.D v5) v6) + ((x4.2.D v7) v8))))) >>= fun v11 =>
 some (.inl ((IntKind.i64.wrap (x4.1 + 1)), (zone_Zone.mk x4.2.N x4.2.None v11))))
 else (some (.inr (.inr x4.2)))

noncomputable def zone_Zone_close_l3 (x2 : (Int × zone_Zone)) (x3 : (Int × zone_Zone)) : Option (Sum (Int × zone_Zone) (Sum zone_Zone zone_Zone)) :=
 if (decide (x3.1 ≤ x3.2.N)) then (iter (zone_Zone_close_l4 x2 x3) (0, x3.2) >>= Sum.elim (fun _ => none) (fun j4 =>
 some (.inl ((IntKind.i64.wrap (x3.1 + 1)), j4))))
 else (some (.inr (.inr x3.2)))

noncomputable def zone_Zone_close_l2 (x2 : (Int × zone_Zone)) : Option (Sum (Int × zone_Zone) (Sum zone_Zone zone_Zone)) :=
 if (decide (x2.1 ≤ x2.2.N)) then (iter (zone_Zone_close_l3 x2) (0, x2.2) >>= Sum.elim (fun _ => none) (fun j3 =>
 some (.inl ((IntKind.i64.wrap (x2.1 + 1)), j3))))
 else (some (.inr (.inr x2.2)))

noncomputable def zone_Zone_close_l5 (j2 : zone_Zone) (x5 : Int) : Option (Sum Int (Sum zone_Zone Unit)) :=
 if (decide (x5 ≤ j2.N)) then (inA 7 x5 >>= fun v12 =>
 inA 7 x5 >>= fun v13 =>
 if (decide (((j2.D v12) v13) < 0)) then (zone_none j2.N >>= fun v14 =>
 some (.inr (.inl v14)))
 else (some (.inl (IntKind.i64.wrap (x5 + 1)))))
 else (some (.inr (.inr ())))

noncomputable def zone_Zone_close (a0 : zone_Zone) : Option zone_Zone :=
 ((if a0.None then (some true)
 else (zone_count a0.N >>= fun v1 =>
 some (!v1)) : Option Bool) >>= fun j1 =>
 if j1 then (some a0)
 else (zone_Zone_own a0 >>= fun v2 =>
 iter (zone_Zone_close_l2) (0, v2) >>= Sum.elim (fun _ => none) (fun j2 =>
 iter (zone_Zone_close_l5 j2) 0 >>= Sum.elim (fun r => some r) (fun j5 =>
 some j2))))

def r_zone_Zone_close (r : zone_Zone) : List XV := [.agg (bs (e_zone_Zone r))]

def o_zone_Zone_close (r : zone_Zone) : Store := []

noncomputable def zone_moved_l1 (a1 : Int) (a2 : Int) (x1 : (Int × zone_Zone)) : Option (Sum (Int × zone_Zone) (Sum zone_Zone zone_Zone)) :=
 if (decide (x1.1 ≤ x1.2.N)) then (((if (x1.1 != a1) then (inA 7 a1 >>= fun v1 =>
 inA 7 x1.1 >>= fun v2 =>
 inA 7 a1 >>= fun v3 =>
 inA 7 x1.1 >>= fun v4 =>
 some (upd2 x1.2.D v3 v4 (IntKind.i64.wrap (((x1.2.D v1) v2) + a2))) >>= fun v5 =>
 inA 7 x1.1 >>= fun v6 =>
 inA 7 a1 >>= fun v7 =>
 inA 7 x1.1 >>= fun v8 =>
 inA 7 a1 >>= fun v9 =>
 some (upd2 v5 v8 v9 (IntKind.i64.wrap (((v5 v6) v7) - a2))) >>= fun v10 =>
 some (zone_Zone.mk x1.2.N x1.2.None v10))
 else (some x1.2) : Option zone_Zone) >>= fun j2 =>
 some (.inl ((IntKind.i64.wrap (x1.1 + 1)), j2))))
 else (some (.inr (.inr x1.2)))

noncomputable def zone_moved (a0 : zone_Zone) (a1 : Int) (a2 : Int) : Option zone_Zone :=
 iter (zone_moved_l1 a1 a2) (0, a0) >>= Sum.elim (fun _ => none) (fun j1 =>
 zone_Zone_close j1 >>= fun v11 =>
 some v11)

def r_zone_moved (r : zone_Zone) : List XV := [.agg (bs (e_zone_Zone r))]

def o_zone_moved (r : zone_Zone) : Store := []

noncomputable def zone_Zone_forget_l1 (a1 : Int) (x1 : (Int × zone_Zone)) : Option (Sum (Int × zone_Zone) (Sum zone_Zone zone_Zone)) :=
 if (decide (x1.1 ≤ x1.2.N)) then (((if (x1.1 != a1) then (inA 7 x1.1 >>= fun v1 =>
 inA 7 a1 >>= fun v2 =>
 inA 7 a1 >>= fun v3 =>
 some (upd2 x1.2.D v1 v2 1099511627776) >>= fun v4 =>
 inA 7 x1.1 >>= fun v5 =>
 some (upd2 v4 v3 v5 1099511627776) >>= fun v6 =>
 some (zone_Zone.mk x1.2.N x1.2.None v6))
 else (some x1.2) : Option zone_Zone) >>= fun j2 =>
 some (.inl ((IntKind.i64.wrap (x1.1 + 1)), j2))))
 else (some (.inr (.inr x1.2)))

noncomputable def zone_Zone_forget (a0 : zone_Zone) (a1 : Int) : Option zone_Zone :=
 iter (zone_Zone_forget_l1 a1) (0, a0) >>= Sum.elim (fun _ => none) (fun j1 =>
 some j1)

def r_zone_Zone_forget (r : zone_Zone) : List XV := []

def o_zone_Zone_forget (r : zone_Zone) : Store := [some (.box true 44 (bs (e_zone_Zone r)))]

noncomputable def zone_Copy (a0 : zone_Zone) (a1 : Int) (a2 : Int) (a3 : Int) : Option zone_Zone :=
 ((zone_variable a0 a1 >>= fun v1 =>
 if (!v1) then (some true)
 else (zone_orNought a0 a2 >>= fun v2 =>
 some (!v2)) : Option Bool) >>= fun j1 =>
 if j1 then (some a0)
 else (if (a1 == a2) then (zone_moved a0 (IntKind.i64.wrap (a1 + 1)) (min (max a3 (-1099511627776)) 1099511627776) >>= fun v3 =>
 some v3)
 else (zone_Zone_forget a0 (IntKind.i64.wrap (a1 + 1)) >>= fun v4 =>
 zone_Zone_close v4 >>= fun v5 =>
 inA 7 (IntKind.i64.wrap (a1 + 1)) >>= fun v6 =>
 inA 7 (IntKind.i64.wrap (a2 + 1)) >>= fun v7 =>
 inA 7 (IntKind.i64.wrap (a2 + 1)) >>= fun v8 =>
 some (upd2 v5.D v6 v7 (min (max a3 (-1099511627776)) 1099511627776)) >>= fun v9 =>
 inA 7 (IntKind.i64.wrap (a1 + 1)) >>= fun v10 =>
 some (upd2 v9 v8 v10 (IntKind.i64.wrap (0 - (min (max a3 (-1099511627776)) 1099511627776)))) >>= fun v11 =>
 zone_Zone_close (zone_Zone.mk v5.N v5.None v11) >>= fun v12 =>
 some v12)))

def r_zone_Copy (r : zone_Zone) : List XV := [.agg (bs (e_zone_Zone r))]

def o_zone_Copy (r : zone_Zone) : Store := []

noncomputable def num_Copy (a0 : num_Num) (a1 : Int) (a2 : Int) (a3 : Int) : Option num_Num :=
 zone_Copy a0.Z a1 a2 a3 >>= fun v1 =>
 num_of v1 >>= fun v2 =>
 some v2

def r_num_Copy (r : num_Num) : List XV := [.agg (bs (e_num_Num r))]

def o_num_Copy (r : num_Num) : Store := []

noncomputable def zone_Bound (a0 : zone_Zone) (a1 : Int) (a2 : Int) (a3 : Int) : Option zone_Zone :=
 ((zone_orNought a0 a1 >>= fun v1 =>
 if (!v1) then (some true)
 else (zone_orNought a0 a2 >>= fun v2 =>
 some (!v2)) : Option Bool) >>= fun j1 =>
 if j1 then (some a0)
 else (inA 7 (IntKind.i64.wrap (a1 + 1)) >>= fun v3 =>
 inA 7 (IntKind.i64.wrap (a2 + 1)) >>= fun v4 =>
 inA 7 (IntKind.i64.wrap (a1 + 1)) >>= fun v5 =>
 inA 7 (IntKind.i64.wrap (a2 + 1)) >>= fun v6 =>
 some (upd2 a0.D v5 v6 (min ((a0.D v3) v4) (max a3 (-1099511627776)))) >>= fun v7 =>
 zone_Zone_close (zone_Zone.mk a0.N a0.None v7) >>= fun v8 =>
 some v8))

def r_zone_Bound (r : zone_Zone) : List XV := [.agg (bs (e_zone_Zone r))]

def o_zone_Bound (r : zone_Zone) : Store := []

noncomputable def num_held (a0 : zone_Zone) (a1 : Int) (a2 : itv_Itv) : Option zone_Zone :=
 ((if (decide (a1 < 0)) then (some true)
 else (some (decide (a1 ≥ a0.N))) : Option Bool) >>= fun j1 =>
 if j1 then (some a0)
 else (itv_Empty a2 >>= fun v1 =>
 if v1 then (num_None a0.N >>= fun v2 =>
 some v2.Z)
 else (zone_Bound a0 a1 (-1) a2.Hi >>= fun v4 =>
 zone_Bound v4 (-1) a1 (IntKind.i64.wrap (0 - a2.Lo)) >>= fun v6 =>
 some v6)))

def r_num_held (r : zone_Zone) : List XV := [.agg (bs (e_zone_Zone r))]

def o_num_held (r : zone_Zone) : Store := []

noncomputable def num_Meet (a0 : num_Num) (a1 : Int) (a2 : itv_Itv) : Option num_Num :=
 num_held a0.Z a1 a2 >>= fun v1 =>
 num_of v1 >>= fun v2 =>
 some v2

def r_num_Meet (r : num_Num) : List XV := [.agg (bs (e_num_Num r))]

def o_num_Meet (r : num_Num) : Store := []

noncomputable def zone_Forget (a0 : zone_Zone) (a1 : Int) : Option zone_Zone :=
 zone_variable a0 a1 >>= fun v1 =>
 if (!v1) then (some a0)
 else (zone_Zone_forget a0 (IntKind.i64.wrap (a1 + 1)) >>= fun v2 =>
 zone_Zone_close v2 >>= fun v3 =>
 some v3)

def r_zone_Forget (r : zone_Zone) : List XV := [.agg (bs (e_zone_Zone r))]

def o_zone_Forget (r : zone_Zone) : Store := []

noncomputable def num_Set (a0 : num_Num) (a1 : Int) (a2 : itv_Itv) : Option num_Num :=
 zone_Forget a0.Z a1 >>= fun v2 =>
 num_held v2 a1 a2 >>= fun v4 =>
 num_of v4 >>= fun v6 =>
 some v6

def r_num_Set (r : num_Num) : List XV := [.agg (bs (e_num_Num r))]

def o_num_Set (r : num_Num) : Store := []

noncomputable def eval_Assign (a0 : num_Num) (a1 : Int) (a2 : check_Expr) : Option (num_Num × itv_Errs) :=
 eval_Eval a2 a0 >>= fun v1 =>
 itv_Empty v1.1 >>= fun v2 =>
 if v2 then (num_None (a0.I.length : Int) >>= fun v4 =>
 some (v4, v1.2))
 else (eval_Linear a2 >>= fun v5 =>
 if v5.2.2 then (num_Copy a0 a1 v5.1 v5.2.1 >>= fun v7 =>
 num_Meet v7 a1 v1.1 >>= fun v9 =>
 some (v9, v1.2))
 else (num_Set a0 a1 v1.1 >>= fun v11 =>
 some (v11, v1.2)))

def r_eval_Assign (r : (num_Num × itv_Errs)) : List XV := [.agg (bs (e_num_Num r.1)), .agg [.pv (.bool r.2.Overflow), .pv (.bool r.2.DivZero)]]

def o_eval_Assign (r : (num_Num × itv_Errs)) : Store := []

noncomputable def trans_stepper_may (a0 : trans_stepper) (a1 : itv_Errs) : Option trans_stepper :=
 ((if (a0.f_errors 2) then (some (trans_stepper.mk a0.f_w a0.f_proc a0.f_out a0.f_at a0.f_e a0.f_a a0.f_sent (arr false [(a0.f_errors 0), (a0.f_errors 1), true, (a0.f_errors 3), (a0.f_errors 4), (a0.f_errors 5), (a0.f_errors 6)])) >>= fun v1 =>
 some (trans_stepper.mk v1.f_w v1.f_proc v1.f_out v1.f_at v1.f_e (trans_State.mk v1.f_a.N a0.f_a.Counts a0.f_a.Rules) v1.f_sent v1.f_errors))
 else (some (trans_stepper.mk a0.f_w a0.f_proc a0.f_out a0.f_at a0.f_e a0.f_a a0.f_sent (arr false [(a0.f_errors 0), (a0.f_errors 1), a1.Overflow, (a0.f_errors 3), (a0.f_errors 4), (a0.f_errors 5), (a0.f_errors 6)])) >>= fun v2 =>
 some (trans_stepper.mk v2.f_w v2.f_proc v2.f_out v2.f_at v2.f_e (trans_State.mk v2.f_a.N a0.f_a.Counts a0.f_a.Rules) v2.f_sent v2.f_errors)) : Option trans_stepper) >>= fun j1 =>
 if (j1.f_errors 3) then (some (trans_stepper.mk j1.f_w j1.f_proc j1.f_out j1.f_at j1.f_e (trans_State.mk j1.f_a.N a0.f_a.Counts a0.f_a.Rules) j1.f_sent (arr false [(j1.f_errors 0), (j1.f_errors 1), (j1.f_errors 2), true, (j1.f_errors 4), (j1.f_errors 5), (j1.f_errors 6)])) >>= fun v3 =>
 some (trans_stepper.mk v3.f_w v3.f_proc v3.f_out v3.f_at v3.f_e (trans_State.mk v3.f_a.N a0.f_a.Counts a0.f_a.Rules) v3.f_sent v3.f_errors))
 else (some (trans_stepper.mk j1.f_w j1.f_proc j1.f_out j1.f_at j1.f_e (trans_State.mk j1.f_a.N a0.f_a.Counts a0.f_a.Rules) j1.f_sent (arr false [(j1.f_errors 0), (j1.f_errors 1), (j1.f_errors 2), a1.DivZero, (j1.f_errors 4), (j1.f_errors 5), (j1.f_errors 6)])) >>= fun v4 =>
 some (trans_stepper.mk v4.f_w v4.f_proc v4.f_out v4.f_at v4.f_e (trans_State.mk v4.f_a.N a0.f_a.Counts a0.f_a.Rules) v4.f_sent v4.f_errors)))

def r_trans_stepper_may (r : trans_stepper) : List XV := []

def o_trans_stepper_may (r : trans_stepper) : Store := [some (.box true 94 ([.pv (.sl (List.map e_check_Chan r.f_w.S.Chans)), .pv (.sl (List.map e_flow_Graph r.f_w.S.Graphs)), .pv (.sl (List.map e_i64 r.f_w.S.Vars)), .pv (.sl (List.map e_queue_Elem r.f_w.Elems)), .pv (.sl (List.map e_bool r.f_w.Deaf)), .pv (.int .i64 r.f_proc), .pv (.sl (List.map e_i64 r.f_out)), .pv (.int .i64 r.f_at), .pv (.int .i64 r.f_e.From), .pv (.int .i64 r.f_e.To), .pv (.int .i64 r.f_e.Kind), .pv (.int .i64 r.f_e.Var), .pv (.int .i64 r.f_e.Chan), .pv (.int .i64 r.f_e.Tag), .pv (.int .i64 r.f_e.E.Kind), .pv (.int .i64 r.f_e.E.Num), .pv (.int .i64 r.f_e.E.Var), .pv (.sl (List.map e_check_Expr r.f_e.E.Kids)), .pv (.int .i64 r.f_e.C.Op), .pv (.int .i64 r.f_e.C.L.Kind), .pv (.int .i64 r.f_e.C.L.Num), .pv (.int .i64 r.f_e.C.L.Var), .pv (.sl (List.map e_check_Expr r.f_e.C.L.Kids)), .pv (.int .i64 r.f_e.C.R.Kind), .pv (.int .i64 r.f_e.C.R.Num), .pv (.int .i64 r.f_e.C.R.Var), .pv (.sl (List.map e_check_Expr r.f_e.C.R.Kids)), .pv (.bool r.f_a.N.None), .pv (.sl (List.map e_itv_Itv r.f_a.N.I)), .pv (.int .i64 r.f_a.N.Z.N), .pv (.bool r.f_a.N.Z.None)] ++ (bs (e_T42 r.f_a.N.Z.D) ++ ([.row 1, .row 2, .pv (.int .i64 r.f_sent.Chan), .pv (.int .i64 r.f_sent.Tag), .pv (.int .i64 r.f_sent.Vals.Lo), .pv (.int .i64 r.f_sent.Vals.Hi)] ++ bs (e_T92 r.f_errors))))), some (.row true true 53 2 (List.map e_itv_Itv r.f_a.Counts)), some (.row true true 85 1 (List.map e_rule_Set r.f_a.Rules))]

noncomputable def trans_stepper_assign (a0 : trans_stepper) : Option trans_stepper :=
 eval_Assign a0.f_a.N a0.f_e.Var a0.f_e.E >>= fun v2 =>
 some (trans_stepper.mk a0.f_w a0.f_proc a0.f_out a0.f_at a0.f_e (trans_State.mk v2.1 a0.f_a.Counts a0.f_a.Rules) a0.f_sent a0.f_errors) >>= fun v3 =>
 trans_stepper_may (trans_stepper.mk v3.f_w v3.f_proc v3.f_out v3.f_at v3.f_e (trans_State.mk v3.f_a.N a0.f_a.Counts a0.f_a.Rules) v3.f_sent v3.f_errors) v2.2 >>= fun v4 =>
 some v4

def r_trans_stepper_assign (r : trans_stepper) : List XV := []

def o_trans_stepper_assign (r : trans_stepper) : Store := [some (.box true 94 ([.pv (.sl (List.map e_check_Chan r.f_w.S.Chans)), .pv (.sl (List.map e_flow_Graph r.f_w.S.Graphs)), .pv (.sl (List.map e_i64 r.f_w.S.Vars)), .pv (.sl (List.map e_queue_Elem r.f_w.Elems)), .pv (.sl (List.map e_bool r.f_w.Deaf)), .pv (.int .i64 r.f_proc), .pv (.sl (List.map e_i64 r.f_out)), .pv (.int .i64 r.f_at), .pv (.int .i64 r.f_e.From), .pv (.int .i64 r.f_e.To), .pv (.int .i64 r.f_e.Kind), .pv (.int .i64 r.f_e.Var), .pv (.int .i64 r.f_e.Chan), .pv (.int .i64 r.f_e.Tag), .pv (.int .i64 r.f_e.E.Kind), .pv (.int .i64 r.f_e.E.Num), .pv (.int .i64 r.f_e.E.Var), .pv (.sl (List.map e_check_Expr r.f_e.E.Kids)), .pv (.int .i64 r.f_e.C.Op), .pv (.int .i64 r.f_e.C.L.Kind), .pv (.int .i64 r.f_e.C.L.Num), .pv (.int .i64 r.f_e.C.L.Var), .pv (.sl (List.map e_check_Expr r.f_e.C.L.Kids)), .pv (.int .i64 r.f_e.C.R.Kind), .pv (.int .i64 r.f_e.C.R.Num), .pv (.int .i64 r.f_e.C.R.Var), .pv (.sl (List.map e_check_Expr r.f_e.C.R.Kids)), .pv (.bool r.f_a.N.None), .pv (.sl (List.map e_itv_Itv r.f_a.N.I)), .pv (.int .i64 r.f_a.N.Z.N), .pv (.bool r.f_a.N.Z.None)] ++ (bs (e_T42 r.f_a.N.Z.D) ++ ([.row 1, .row 2, .pv (.int .i64 r.f_sent.Chan), .pv (.int .i64 r.f_sent.Tag), .pv (.int .i64 r.f_sent.Vals.Lo), .pv (.int .i64 r.f_sent.Vals.Hi)] ++ bs (e_T92 r.f_errors))))), some (.row true true 53 2 (List.map e_itv_Itv r.f_a.Counts)), some (.row true true 85 1 (List.map e_rule_Set r.f_a.Rules))]

noncomputable def trans_stepper_room (a0 : trans_stepper) (a1 : check_Chan) (a2 : itv_Itv) : Option itv_Itv :=
 ((if (a1.Kind == 2) then (some true)
 else (idx a0.f_w.Deaf a0.f_e.Chan >>= fun v1 =>
 some (!v1)) : Option Bool) >>= fun j1 =>
 if j1 then (some a2)
 else (itv_Of 0 (IntKind.i64.wrap (a1.Size - 1)) >>= fun v3 =>
 itv_Meet a2 v3 >>= fun v5 =>
 some v5))

def r_trans_stepper_room (r : itv_Itv) : List XV := [.agg [.pv (.int .i64 r.Lo), .pv (.int .i64 r.Hi)]]

def o_trans_stepper_room (a0 : trans_stepper) (r : itv_Itv) : Store := [some (.box false 94 ([.pv (.sl (List.map e_check_Chan a0.f_w.S.Chans)), .pv (.sl (List.map e_flow_Graph a0.f_w.S.Graphs)), .pv (.sl (List.map e_i64 a0.f_w.S.Vars)), .pv (.sl (List.map e_queue_Elem a0.f_w.Elems)), .pv (.sl (List.map e_bool a0.f_w.Deaf)), .pv (.int .i64 a0.f_proc), .pv (.sl (List.map e_i64 a0.f_out)), .pv (.int .i64 a0.f_at), .pv (.int .i64 a0.f_e.From), .pv (.int .i64 a0.f_e.To), .pv (.int .i64 a0.f_e.Kind), .pv (.int .i64 a0.f_e.Var), .pv (.int .i64 a0.f_e.Chan), .pv (.int .i64 a0.f_e.Tag), .pv (.int .i64 a0.f_e.E.Kind), .pv (.int .i64 a0.f_e.E.Num), .pv (.int .i64 a0.f_e.E.Var), .pv (.sl (List.map e_check_Expr a0.f_e.E.Kids)), .pv (.int .i64 a0.f_e.C.Op), .pv (.int .i64 a0.f_e.C.L.Kind), .pv (.int .i64 a0.f_e.C.L.Num), .pv (.int .i64 a0.f_e.C.L.Var), .pv (.sl (List.map e_check_Expr a0.f_e.C.L.Kids)), .pv (.int .i64 a0.f_e.C.R.Kind), .pv (.int .i64 a0.f_e.C.R.Num), .pv (.int .i64 a0.f_e.C.R.Var), .pv (.sl (List.map e_check_Expr a0.f_e.C.R.Kids)), .pv (.bool a0.f_a.N.None), .pv (.sl (List.map e_itv_Itv a0.f_a.N.I)), .pv (.int .i64 a0.f_a.N.Z.N), .pv (.bool a0.f_a.N.Z.None)] ++ (bs (e_T42 a0.f_a.N.Z.D) ++ ([.row 1, .row 2, .pv (.int .i64 a0.f_sent.Chan), .pv (.int .i64 a0.f_sent.Tag), .pv (.int .i64 a0.f_sent.Vals.Lo), .pv (.int .i64 a0.f_sent.Vals.Hi)] ++ bs (e_T92 a0.f_errors))))), some (.row false false 53 2 (List.map e_itv_Itv a0.f_a.Counts)), some (.row false false 85 1 (List.map e_rule_Set a0.f_a.Rules))]

noncomputable def trans_stepper_stops (a0 : trans_stepper) : Option trans_stepper :=
 trans_None a0.f_w.S a0.f_proc >>= fun v2 =>
 some (trans_stepper.mk a0.f_w a0.f_proc a0.f_out a0.f_at a0.f_e v2 a0.f_sent a0.f_errors) >>= fun v3 =>
 some v3

def r_trans_stepper_stops (r : trans_stepper) : List XV := []

def o_trans_stepper_stops (r : trans_stepper) : Store := [some (.box true 94 (bs (e_trans_stepper r))), none, none]

noncomputable def rule_Has (a0 : Int) (a1 : Int) : Option Bool :=
 ((if (decide (a1 ≥ 0)) then (if (decide (a1 < 8)) then (shr .u8 a0 a1 >>= fun v1 =>
 some ((IntKind.u8.wrap (BitVec.ofInt IntKind.u8.bits v1 &&& BitVec.ofInt IntKind.u8.bits 1).toNat) == 1))
 else (some false))
 else (some false) : Option Bool) >>= fun j1 =>
 some j1)

def r_rule_Has (r : Bool) : List XV := [.c (.pv (.bool r))]

def o_rule_Has (r : Bool) : Store := []

noncomputable def rule_List_l2 (a0 : Int) (x2 : (Int × (List Int))) : Option (Sum (Int × (List Int)) (Sum (List Int) (List Int))) :=
 if (decide (x2.1 < 8)) then (((rule_Has a0 x2.1 >>= fun v1 =>
 if v1 then (app 8 x2.2 [x2.1] >>= fun v2 =>
 some v2)
 else (some x2.2) : Option (List Int)) >>= fun j3 =>
 some (.inl ((IntKind.i64.wrap (x2.1 + 1)), j3))))
 else (some (.inr (.inr x2.2)))

noncomputable def rule_List (a0 : Int) : Option (List Int) :=
 iter (rule_List_l2 a0) (0, []) >>= Sum.elim (fun _ => none) (fun j2 =>
 some j2)

def r_rule_List (r : (List Int)) : List XV := [.c (.pv (.sl (List.map e_i64 r)))]

def o_rule_List (r : (List Int)) : Store := []

noncomputable def rule_next (a0 : check_Chan) (a1 : Int) (a2 : Int) : Option (Int × Bool) :=
 ((if (decide (a1 ≥ (a0.Rule.length : Int))) then (some true)
 else (if (decide (a2 < 0)) then (some true)
 else (idx a0.Rule a1 >>= fun v1 =>
 some (decide (a2 ≥ (v1.length : Int))))) : Option Bool) >>= fun j1 =>
 if j1 then (some (0, false))
 else (idx a0.Rule a1 >>= fun v2 =>
 idx v2 a2 >>= fun v3 =>
 ((if (decide (v3 ≥ 0)) then (some (decide (v3 < 8)))
 else (some false) : Option Bool) >>= fun j2 =>
 some (v3, j2))))

def r_rule_next (r : (Int × Bool)) : List XV := [.c (.pv (.int .i64 r.1)), .c (.pv (.bool r.2))]

def o_rule_next (r : (Int × Bool)) : Store := []

noncomputable def rule_Step_l1 (a0 : check_Chan) (a2 : Int) (v1 : (List Int)) (x1 : (Int × Bool × Int)) : Option (Sum (Int × Bool × Int) (Sum (Int × Bool) (Int × Bool))) :=
 if (decide (x1.2.2 < (v1.length : Int))) then (((idx v1 x1.2.2 >>= fun v2 =>
 rule_next a0 v2 a2 >>= fun v3 =>
 ((if v3.2 then (shl .u8 1 v3.1 >>= fun v4 =>
 some (IntKind.u8.wrap (BitVec.ofInt IntKind.u8.bits x1.1 ||| BitVec.ofInt IntKind.u8.bits v4).toNat))
 else (some x1.1) : Option Int) >>= fun j3 =>
 if x1.2.1 then (some (j3, true))
 else (some (j3, (!v3.2)))) : Option (Int × Bool)) >>= fun j2 =>
 some (.inl (j2.1, j2.2, (IntKind.i64.wrap (x1.2.2 + 1))))))
 else (some (.inr (.inr (x1.1, x1.2.1))))

noncomputable def rule_Step (a0 : check_Chan) (a1 : Int) (a2 : Int) : Option (Int × Bool) :=
 if ((a0.Rule.length : Int) == 0) then (some (a1, false))
 else (rule_List a1 >>= fun v1 =>
 iter (rule_Step_l1 a0 a2 v1) (0, false, 0) >>= Sum.elim (fun _ => none) (fun j1 =>
 some (j1.1, j1.2)))

def r_rule_Step (r : (Int × Bool)) : List XV := [.c (.pv (.int .u8 r.1)), .c (.pv (.bool r.2))]

def o_rule_Step (r : (Int × Bool)) : Store := []

noncomputable def trans_stepper_ruled (a0 : trans_stepper) (a1 : check_Chan) : Option (trans_stepper × Bool) :=
 idx a0.f_a.Rules a0.f_e.Chan >>= fun v1 =>
 rule_Step a1 v1 a0.f_e.Tag >>= fun v3 =>
 some (trans_stepper.mk a0.f_w a0.f_proc a0.f_out a0.f_at a0.f_e a0.f_a a0.f_sent (arr false [(a0.f_errors 0), (a0.f_errors 1), (a0.f_errors 2), (a0.f_errors 3), (a0.f_errors 4), (a0.f_errors 5), v3.2])) >>= fun v4 =>
 idx a0.f_a.Rules v4.f_e.Chan >>= fun v5 =>
 some ((trans_stepper.mk v4.f_w v4.f_proc v4.f_out v4.f_at v4.f_e (trans_State.mk v4.f_a.N a0.f_a.Counts (seti a0.f_a.Rules v4.f_e.Chan v3.1)) v4.f_sent v4.f_errors), (v3.1 != 0))

def r_trans_stepper_ruled (r : (trans_stepper × Bool)) : List XV := [.c (.pv (.bool r.2))]

def o_trans_stepper_ruled (r : (trans_stepper × Bool)) : Store := [some (.box true 94 ([.pv (.sl (List.map e_check_Chan r.1.f_w.S.Chans)), .pv (.sl (List.map e_flow_Graph r.1.f_w.S.Graphs)), .pv (.sl (List.map e_i64 r.1.f_w.S.Vars)), .pv (.sl (List.map e_queue_Elem r.1.f_w.Elems)), .pv (.sl (List.map e_bool r.1.f_w.Deaf)), .pv (.int .i64 r.1.f_proc), .pv (.sl (List.map e_i64 r.1.f_out)), .pv (.int .i64 r.1.f_at), .pv (.int .i64 r.1.f_e.From), .pv (.int .i64 r.1.f_e.To), .pv (.int .i64 r.1.f_e.Kind), .pv (.int .i64 r.1.f_e.Var), .pv (.int .i64 r.1.f_e.Chan), .pv (.int .i64 r.1.f_e.Tag), .pv (.int .i64 r.1.f_e.E.Kind), .pv (.int .i64 r.1.f_e.E.Num), .pv (.int .i64 r.1.f_e.E.Var), .pv (.sl (List.map e_check_Expr r.1.f_e.E.Kids)), .pv (.int .i64 r.1.f_e.C.Op), .pv (.int .i64 r.1.f_e.C.L.Kind), .pv (.int .i64 r.1.f_e.C.L.Num), .pv (.int .i64 r.1.f_e.C.L.Var), .pv (.sl (List.map e_check_Expr r.1.f_e.C.L.Kids)), .pv (.int .i64 r.1.f_e.C.R.Kind), .pv (.int .i64 r.1.f_e.C.R.Num), .pv (.int .i64 r.1.f_e.C.R.Var), .pv (.sl (List.map e_check_Expr r.1.f_e.C.R.Kids)), .pv (.bool r.1.f_a.N.None), .pv (.sl (List.map e_itv_Itv r.1.f_a.N.I)), .pv (.int .i64 r.1.f_a.N.Z.N), .pv (.bool r.1.f_a.N.Z.None)] ++ (bs (e_T42 r.1.f_a.N.Z.D) ++ ([.row 1, .row 2, .pv (.int .i64 r.1.f_sent.Chan), .pv (.int .i64 r.1.f_sent.Tag), .pv (.int .i64 r.1.f_sent.Vals.Lo), .pv (.int .i64 r.1.f_sent.Vals.Hi)] ++ bs (e_T92 r.1.f_errors))))), some (.row true true 53 2 (List.map e_itv_Itv r.1.f_a.Counts)), some (.row true true 85 1 (List.map e_rule_Set r.1.f_a.Rules))]

noncomputable def trans_stepper_send (a0 : trans_stepper) : Option trans_stepper :=
 idx a0.f_w.S.Chans a0.f_e.Chan >>= fun v1 =>
 idx a0.f_a.Counts a0.f_e.Chan >>= fun v2 =>
 trans_stepper_room a0 v1 v2 >>= fun v3 =>
 ((if (v1.Kind == 0) then (itv_Empty v3 >>= fun v4 =>
 some v4)
 else (some false) : Option Bool) >>= fun j1 =>
 if j1 then (trans_stepper_stops a0 >>= fun v5 =>
 some v5)
 else (eval_Eval a0.f_e.E a0.f_a.N >>= fun v7 =>
 trans_stepper_may a0 v7.2 >>= fun v8 =>
 ((itv_Empty v7.1 >>= fun v9 =>
 if v9 then (some (true, v8, v8.f_a.Counts, v8.f_a.Rules))
 else (trans_stepper_ruled v8 v1 >>= fun v10 =>
 some ((!v10.2), v10.1, v10.1.f_a.Counts, v10.1.f_a.Rules)) : Option (Bool × trans_stepper × (List itv_Itv) × (List Int))) >>= fun j2 =>
 if j2.1 then (trans_stepper_stops (trans_stepper.mk j2.2.1.f_w j2.2.1.f_proc j2.2.1.f_out j2.2.1.f_at j2.2.1.f_e (trans_State.mk j2.2.1.f_a.N j2.2.2.1 j2.2.2.2) j2.2.1.f_sent j2.2.1.f_errors) >>= fun v11 =>
 some v11)
 else (((if (v1.Kind == 1) then (some (trans_stepper.mk j2.2.1.f_w j2.2.1.f_proc j2.2.1.f_out j2.2.1.f_at j2.2.1.f_e (trans_State.mk j2.2.1.f_a.N j2.2.2.1 j2.2.2.2) j2.2.1.f_sent (arr false [(j2.2.1.f_errors 0), (j2.2.1.f_errors 1), (j2.2.1.f_errors 2), (j2.2.1.f_errors 3), (decide (v2.Hi ≥ v1.Size)), (j2.2.1.f_errors 5), (j2.2.1.f_errors 6)])) >>= fun v12 =>
 some (trans_stepper.mk v12.f_w v12.f_proc v12.f_out v12.f_at v12.f_e (trans_State.mk v12.f_a.N j2.2.2.1 j2.2.2.2) v12.f_sent v12.f_errors))
 else (some (trans_stepper.mk j2.2.1.f_w j2.2.1.f_proc j2.2.1.f_out j2.2.1.f_at j2.2.1.f_e (trans_State.mk j2.2.1.f_a.N j2.2.2.1 j2.2.2.2) j2.2.1.f_sent (arr false [(j2.2.1.f_errors 0), (j2.2.1.f_errors 1), (j2.2.1.f_errors 2), (j2.2.1.f_errors 3), false, (j2.2.1.f_errors 5), (j2.2.1.f_errors 6)])) >>= fun v13 =>
 some (trans_stepper.mk v13.f_w v13.f_proc v13.f_out v13.f_at v13.f_e (trans_State.mk v13.f_a.N j2.2.2.1 j2.2.2.2) v13.f_sent v13.f_errors)) : Option trans_stepper) >>= fun j3 =>
 itv_Empty v3 >>= fun v14 =>
 if v14 then (trans_stepper_stops (trans_stepper.mk j3.f_w j3.f_proc j3.f_out j3.f_at j3.f_e (trans_State.mk j3.f_a.N j2.2.2.1 j2.2.2.2) j3.f_sent j3.f_errors) >>= fun v15 =>
 some v15)
 else (idx j2.2.2.1 a0.f_e.Chan >>= fun v16 =>
 some (trans_stepper.mk j3.f_w j3.f_proc j3.f_out j3.f_at j3.f_e (trans_State.mk j3.f_a.N (seti j2.2.2.1 a0.f_e.Chan (itv_Itv.mk (min (IntKind.i64.wrap (v3.Lo + 1)) (IntKind.i64.wrap (v1.Size + 1))) (min (IntKind.i64.wrap (v3.Hi + 1)) (IntKind.i64.wrap (v1.Size + 1))))) j2.2.2.2) (trans_Sent.mk a0.f_e.Chan j3.f_e.Tag v7.1) j3.f_errors) >>= fun v17 =>
 some (trans_stepper.mk v17.f_w v17.f_proc v17.f_out v17.f_at v17.f_e (trans_State.mk v17.f_a.N (seti j2.2.2.1 a0.f_e.Chan (itv_Itv.mk (min (IntKind.i64.wrap (v3.Lo + 1)) (IntKind.i64.wrap (v1.Size + 1))) (min (IntKind.i64.wrap (v3.Hi + 1)) (IntKind.i64.wrap (v1.Size + 1))))) j2.2.2.2) v17.f_sent v17.f_errors)))))))

def r_trans_stepper_send (r : trans_stepper) : List XV := []

def o_trans_stepper_send (r : trans_stepper) : Store := [some (.box true 94 (bs (e_trans_stepper r))), none, none]

noncomputable def trans_stepper_stops_2 (a0 : trans_stepper) : Option trans_stepper :=
 trans_None a0.f_w.S a0.f_proc >>= fun v2 =>
 some (trans_stepper.mk a0.f_w a0.f_proc a0.f_out a0.f_at a0.f_e v2 a0.f_sent a0.f_errors) >>= fun v3 =>
 some v3

def r_trans_stepper_stops_2 (r : trans_stepper) : List XV := []

def o_trans_stepper_stops_2 (r : trans_stepper) : Store := [some (.box true 94 (bs (e_trans_stepper r)))]

noncomputable def trans_stepper_step (a0 : trans_stepper) : Option trans_stepper :=
 ((if (a0.f_e.Kind == 1) then (trans_stepper_assign a0 >>= fun v1 =>
 some v1)
 else (if (a0.f_e.Kind == 2) then (none)
 else (if (a0.f_e.Kind == 5) then (none)
 else (if (a0.f_e.Kind == 6) then (itv_All >>= fun v3 =>
 num_Set a0.f_a.N a0.f_e.Var v3 >>= fun v5 =>
 some (trans_stepper.mk a0.f_w a0.f_proc a0.f_out a0.f_at a0.f_e (trans_State.mk v5 a0.f_a.Counts a0.f_a.Rules) a0.f_sent a0.f_errors) >>= fun v6 =>
 some (trans_stepper.mk v6.f_w v6.f_proc v6.f_out v6.f_at v6.f_e (trans_State.mk v6.f_a.N a0.f_a.Counts a0.f_a.Rules) v6.f_sent v6.f_errors))
 else (if (a0.f_e.Kind == 3) then (trans_stepper_send a0 >>= fun v7 =>
 some v7)
 else (if (a0.f_e.Kind == 4) then (none)
 else (some a0)))))) : Option trans_stepper) >>= fun j1 =>
 trans_Empty j1.f_a >>= fun v8 =>
 if v8 then (trans_stepper_stops_2 j1 >>= fun v9 =>
 some v9)
 else (some j1))

def r_trans_stepper_step (r : trans_stepper) : List XV := []

def o_trans_stepper_step (r : trans_stepper) : Store := [some (.box true 94 (bs (e_trans_stepper r))), none, none]

noncomputable def trans_stepper_kinds_l2 (a0 : trans_stepper) (x2 : (Int × (List Int))) : Option (Sum (Int × (List Int)) (Sum (List Int) (List Int))) :=
 if (decide (x2.1 < 7)) then (((inA 7 x2.1 >>= fun v1 =>
 if (a0.f_errors v1) then (app 8 x2.2 [x2.1] >>= fun v2 =>
 some v2)
 else (some x2.2) : Option (List Int)) >>= fun j3 =>
 some (.inl ((IntKind.i64.wrap (x2.1 + 1)), j3))))
 else (some (.inr (.inr x2.2)))

noncomputable def trans_stepper_kinds (a0 : trans_stepper) : Option (List Int) :=
 iter (trans_stepper_kinds_l2 a0) (0, []) >>= Sum.elim (fun _ => none) (fun j2 =>
 some j2)

def r_trans_stepper_kinds (r : (List Int)) : List XV := [.c (.pv (.sl (List.map e_i64 r)))]

def o_trans_stepper_kinds (a0 : trans_stepper) (r : (List Int)) : Store := [some (.box false 94 (bs (e_trans_stepper a0)))]

noncomputable def trans_Step (a0 : trans_World) (a1 : Int) (a2 : Int) (a3 : trans_State) : Option (trans_State × trans_Sent × (List Int)) :=
 itv_None >>= fun v1 =>
 ((if (decide (a1 < 0)) then (some true)
 else (if (decide (a1 ≥ (a0.S.Graphs.length : Int))) then (some true)
 else (if (decide (a2 < 0)) then (some true)
 else (idx a0.S.Graphs a1 >>= fun v2 =>
 if (decide (a2 ≥ (v2.Edges.length : Int))) then (some true)
 else (trans_Empty a3 >>= fun v3 =>
 some v3)))) : Option Bool) >>= fun j1 =>
 if j1 then (trans_None a0.S a1 >>= fun v5 =>
 some (v5, (trans_Sent.mk (-1) 0 v1), []))
 else (idx a0.S.Graphs a1 >>= fun v6 =>
 idx v6.Edges a2 >>= fun v7 =>
 idx a0.S.Graphs a1 >>= fun v8 =>
 flow_Out v8 v7.From >>= fun v10 =>
 trans_copied a3 >>= fun v13 =>
 trans_stepper_step (trans_stepper.mk a0 a1 v10 a2 v7 v13 (trans_Sent.mk (-1) 0 v1) (arr false [false, false, false, false, false, false, false])) >>= fun v14 =>
 trans_stepper_kinds v14 >>= fun v16 =>
 some (v14.f_a, v14.f_sent, v16)))

def r_trans_Step (r : (trans_State × trans_Sent × (List Int))) : List XV := [.agg (bs (e_trans_State r.1)), .agg [.pv (.int .i64 r.2.1.Chan), .pv (.int .i64 r.2.1.Tag), .pv (.int .i64 r.2.1.Vals.Lo), .pv (.int .i64 r.2.1.Vals.Hi)], .c (.pv (.sl (List.map e_i64 r.2.2)))]

def o_trans_Step (r : (trans_State × trans_Sent × (List Int))) : Store := []

noncomputable def l14_steps : Option Bool :=
 trans_Start (flow_Sys.mk [] [(flow_Graph.mk 2 [(flow_Edge.mk 0 1 1 0 0 0 (check_Expr.mk 1 3 0 []) (check_Cond.mk 0 (check_Expr.mk 0 0 0 []) (check_Expr.mk 0 0 0 [])))] [])] [1]) 0 >>= fun v2 =>
 trans_Step (trans_World.mk (flow_Sys.mk [] [(flow_Graph.mk 2 [(flow_Edge.mk 0 1 1 0 0 0 (check_Expr.mk 1 3 0 []) (check_Cond.mk 0 (check_Expr.mk 0 0 0 []) (check_Expr.mk 0 0 0 [])))] [])] [1]) [] []) 0 0 v2 >>= fun v4 =>
 ((trans_Empty v4.1 >>= fun v6 =>
 if (!v6) then (if ((v4.1.N.I.length : Int) == 1) then (idx v4.1.N.I 0 >>= fun v7 =>
 itv_Const 3 >>= fun v9 =>
 if ((v7.Lo : Int) == v9.Lo && ((v7.Hi : Int) == v9.Hi && true)) then (if (v4.2.1.Chan == (-1)) then (if ((v4.2.2.length : Int) == 0) then (trans_None (flow_Sys.mk [] [(flow_Graph.mk 2 [(flow_Edge.mk 0 1 1 0 0 0 (check_Expr.mk 1 3 0 []) (check_Cond.mk 0 (check_Expr.mk 0 0 0 []) (check_Expr.mk 0 0 0 [])))] [])] [1]) 0 >>= fun v11 =>
 trans_Empty v11 >>= fun v13 =>
 some v13)
 else (some false))
 else (some false))
 else (some false))
 else (some false))
 else (some false) : Option Bool) >>= fun j1 =>
 some j1)

def r_l14_steps (r : Bool) : List XV := [.c (.pv (.bool r))]

def o_l14_steps (r : Bool) : Store := []

noncomputable def l14_TransSends_l1 (v1 : Int) (v2 : Int) (v3 : Int) (v5 : queue_Elem) (v7 : (List Bool)) (x1 : (Int × trans_State)) : Option (Sum (Int × trans_State) (Sum Bool Unit)) :=
 if (decide (x1.1 < (IntKind.i64.wrap v3))) then (trans_Step (trans_World.mk (flow_Sys.mk [(check_Chan.mk (IntKind.i64.wrap v1) (IntKind.i64.wrap (1 + (IntKind.i64.wrap v2))) 0 1 1 [])] [(flow_Graph.mk 2 [(flow_Edge.mk 0 1 3 0 0 0 (check_Expr.mk 1 5 0 []) (check_Cond.mk 0 (check_Expr.mk 0 0 0 []) (check_Expr.mk 0 0 0 [])))] []), (flow_Graph.mk 2 [(flow_Edge.mk 0 1 0 0 0 0 (check_Expr.mk 0 0 0 []) (check_Cond.mk 0 (check_Expr.mk 0 0 0 []) (check_Expr.mk 0 0 0 [])))] [])] [0, 0]) [v5] v7) 0 0 x1.2 >>= fun v9 =>
 ((((if (decide (x1.1 ≥ (IntKind.i64.wrap (1 + (IntKind.i64.wrap v2))))) then (some ((IntKind.i64.wrap v1) == 0))
 else (some false) : Option Bool) >>= fun j3 =>
 if j3 then (((trans_Empty v9.1 >>= fun v10 =>
 if (!v10) then (some true)
 else (if ((v9.2.2.length : Int) != 0) then (some true)
 else (some (v9.2.1.Chan != (-1)))) : Option Bool) >>= fun j4 =>
 if j4 then (some (.inl false))
 else (some (.inr ()))))
 else (((if (decide (x1.1 ≥ (IntKind.i64.wrap (1 + (IntKind.i64.wrap v2))))) then (some ((IntKind.i64.wrap v1) == 1))
 else (some false) : Option Bool) >>= fun j5 =>
 if j5 then (((trans_Empty v9.1 >>= fun v11 =>
 if (!v11) then (some true)
 else (if ((v9.2.2.length : Int) != 1) then (some true)
 else (idx v9.2.2 0 >>= fun v12 =>
 if (v12 != 4) then (some true)
 else (some (v9.2.1.Chan != (-1))))) : Option Bool) >>= fun j6 =>
 if j6 then (some (.inl false))
 else (some (.inr ()))))
 else (((trans_Empty v9.1 >>= fun v14 =>
 if v14 then (some true)
 else (if ((v9.1.Counts.length : Int) != 1) then (some true)
 else (if ((v9.2.2.length : Int) != 0) then (some true)
 else (if (v9.2.1.Chan != 0) then (some true)
 else (itv_Const 5 >>= fun v16 =>
 if (!((v9.2.1.Vals.Lo : Int) == v16.Lo && ((v9.2.1.Vals.Hi : Int) == v16.Hi && true))) then (some true)
 else (idx v9.1.Counts 0 >>= fun v17 =>
 itv_Const (min (IntKind.i64.wrap (x1.1 + 1)) (IntKind.i64.wrap ((IntKind.i64.wrap (1 + (IntKind.i64.wrap v2))) + 1))) >>= fun v19 =>
 some (!((v17.Lo : Int) == v19.Lo && ((v17.Hi : Int) == v19.Hi && true)))))))) : Option Bool) >>= fun j7 =>
 if j7 then (some (.inl false))
 else (some (.inr ()))))))) : Option (Sum Bool Unit)) >>= Sum.elim (fun r => some (.inr (.inl r))) (fun j2 =>
 trans_Empty v9.1 >>= fun v20 =>
 if v20 then (some (.inr (.inr ())))
 else (some (.inl ((IntKind.i64.wrap (x1.1 + 1)), v9.1))))))
 else (some (.inr (.inr ())))

noncomputable def l14_TransSends (a0 : Int) (a1 : Int) (a2 : Int) : Option Bool :=
 rem (IntKind.u64.wrap a0) 3 >>= fun v1 =>
 rem (IntKind.u64.wrap a1) 16 >>= fun v2 =>
 rem (IntKind.u64.wrap a2) 20 >>= fun v3 =>
 queue_None (check_Chan.mk (IntKind.i64.wrap v1) (IntKind.i64.wrap (1 + (IntKind.i64.wrap v2))) 0 1 1 []) >>= fun v5 =>
 trans_Deaf (flow_Sys.mk [(check_Chan.mk (IntKind.i64.wrap v1) (IntKind.i64.wrap (1 + (IntKind.i64.wrap v2))) 0 1 1 [])] [(flow_Graph.mk 2 [(flow_Edge.mk 0 1 3 0 0 0 (check_Expr.mk 1 5 0 []) (check_Cond.mk 0 (check_Expr.mk 0 0 0 []) (check_Expr.mk 0 0 0 [])))] []), (flow_Graph.mk 2 [(flow_Edge.mk 0 1 0 0 0 0 (check_Expr.mk 0 0 0 []) (check_Cond.mk 0 (check_Expr.mk 0 0 0 []) (check_Expr.mk 0 0 0 [])))] [])] [0, 0]) >>= fun v7 =>
 trans_Start (flow_Sys.mk [(check_Chan.mk (IntKind.i64.wrap v1) (IntKind.i64.wrap (1 + (IntKind.i64.wrap v2))) 0 1 1 [])] [(flow_Graph.mk 2 [(flow_Edge.mk 0 1 3 0 0 0 (check_Expr.mk 1 5 0 []) (check_Cond.mk 0 (check_Expr.mk 0 0 0 []) (check_Expr.mk 0 0 0 [])))] []), (flow_Graph.mk 2 [(flow_Edge.mk 0 1 0 0 0 0 (check_Expr.mk 0 0 0 []) (check_Cond.mk 0 (check_Expr.mk 0 0 0 []) (check_Expr.mk 0 0 0 [])))] [])] [0, 0]) 0 >>= fun v8 =>
 iter (l14_TransSends_l1 v1 v2 v3 v5 v7) (0, v8) >>= Sum.elim (fun _ => none) (fun j1 =>
 ((l14_steps >>= fun v21 =>
 if v21 then (idx v7 0 >>= fun v22 =>
 some v22)
 else (some false) : Option Bool) >>= fun j8 =>
 some j8))

def r_l14_TransSends (r : Bool) : List XV := [.c (.pv (.bool r))]

def o_l14_TransSends (r : Bool) : Store := []
end Go.Proofs.Ytbebnddalipfhaa.Abs
