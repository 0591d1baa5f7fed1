/- Gw: the functions, told by typed values. -/
import Derived.Test.YtaaihamelknhdaaGreatDoorHandT
import Derived.Test.YtaaihamelknhdaaGreatDoorProg
namespace Go.Proofs.YtaaihamelknhdaaGreatDoor.Abs
open Go Go.RowKit
set_option linter.unusedVariables false

structure r02_Expr where
  Kind : Int
  Num : Int
  Name : ByteArray
  Kids : (List r02_Expr)
structure r02_Cond where
  Op : Int
  L : r02_Expr
  R : r02_Expr
mutual
inductive r02_Arm where
  | mk (Tag : ByteArray) (Var : ByteArray) (Body : (List r02_Stmt))
inductive r02_Stmt where
  | mk (Kind : Int) (Name : ByteArray) (Tag : ByteArray) (E : r02_Expr) (C : r02_Cond) (Body : (List r02_Stmt)) (Else : (List r02_Stmt)) (Arms : (List r02_Arm))
end
def r02_Arm.Tag : r02_Arm → ByteArray
  | .mk x _ _ => x
def r02_Arm.Var : r02_Arm → ByteArray
  | .mk _ x _ => x
def r02_Arm.Body : r02_Arm → (List r02_Stmt)
  | .mk _ _ x => x
def r02_Stmt.Kind : r02_Stmt → Int
  | .mk x _ _ _ _ _ _ _ => x
def r02_Stmt.Name : r02_Stmt → ByteArray
  | .mk _ x _ _ _ _ _ _ => x
def r02_Stmt.Tag : r02_Stmt → ByteArray
  | .mk _ _ x _ _ _ _ _ => x
def r02_Stmt.E : r02_Stmt → r02_Expr
  | .mk _ _ _ x _ _ _ _ => x
def r02_Stmt.C : r02_Stmt → r02_Cond
  | .mk _ _ _ _ x _ _ _ => x
def r02_Stmt.Body : r02_Stmt → (List r02_Stmt)
  | .mk _ _ _ _ _ x _ _ => x
def r02_Stmt.Else : r02_Stmt → (List r02_Stmt)
  | .mk _ _ _ _ _ _ x _ => x
def r02_Stmt.Arms : r02_Stmt → (List r02_Arm)
  | .mk _ _ _ _ _ _ _ x => x
structure r02_Chan where
  Name : ByteArray
  Kind : Int
  Size : Int
  From : ByteArray
  To : ByteArray
  Tags : (List ByteArray)
structure r02_Move where
  From : Int
  Tag : ByteArray
  To : Int
structure r02_Rule where
  Chan : ByteArray
  Moves : (List r02_Move)
structure r02_Proc where
  Name : ByteArray
  Vars : (List ByteArray)
  Body : (List r02_Stmt)
structure ast_Chan where
  Name : ByteArray
  Kind : Int
  Size : Int
  From : ByteArray
  To : ByteArray
  Tags : (List ByteArray)
structure ast_Move where
  From : Int
  Tag : ByteArray
  To : Int
structure ast_Rule where
  Chan : ByteArray
  Moves : (List ast_Move)
structure ast_Expr where
  Kind : Int
  Num : Int
  Name : ByteArray
  Kids : (List ast_Expr)
structure ast_Cond where
  Op : Int
  L : ast_Expr
  R : ast_Expr
mutual
inductive ast_Arm where
  | mk (Tag : ByteArray) (Var : ByteArray) (Body : (List ast_Stmt))
inductive ast_Stmt where
  | mk (Kind : Int) (Name : ByteArray) (Tag : ByteArray) (E : ast_Expr) (C : ast_Cond) (Body : (List ast_Stmt)) (Else : (List ast_Stmt)) (Arms : (List ast_Arm))
end
def ast_Arm.Tag : ast_Arm → ByteArray
  | .mk x _ _ => x
def ast_Arm.Var : ast_Arm → ByteArray
  | .mk _ x _ => x
def ast_Arm.Body : ast_Arm → (List ast_Stmt)
  | .mk _ _ x => x
def ast_Stmt.Kind : ast_Stmt → Int
  | .mk x _ _ _ _ _ _ _ => x
def ast_Stmt.Name : ast_Stmt → ByteArray
  | .mk _ x _ _ _ _ _ _ => x
def ast_Stmt.Tag : ast_Stmt → ByteArray
  | .mk _ _ x _ _ _ _ _ => x
def ast_Stmt.E : ast_Stmt → ast_Expr
  | .mk _ _ _ x _ _ _ _ => x
def ast_Stmt.C : ast_Stmt → ast_Cond
  | .mk _ _ _ _ x _ _ _ => x
def ast_Stmt.Body : ast_Stmt → (List ast_Stmt)
  | .mk _ _ _ _ _ x _ _ => x
def ast_Stmt.Else : ast_Stmt → (List ast_Stmt)
  | .mk _ _ _ _ _ _ x _ => x
def ast_Stmt.Arms : ast_Stmt → (List ast_Arm)
  | .mk _ _ _ _ _ _ _ x => x
structure ast_Proc where
  Name : ByteArray
  Vars : (List ByteArray)
  Body : (List ast_Stmt)
mutual
def e_r02_Expr : r02_Expr → List PV
  | .mk z_Kind z_Num z_Name z_Kids => [.int .i64 z_Kind, .int .i64 z_Num, .str z_Name, .sl (e_r02_Expr_l z_Kids)]
def e_r02_Expr_l : List r02_Expr → List (List PV)
  | [] => []
  | x :: xs => e_r02_Expr x :: e_r02_Expr_l xs
end
theorem e_r02_Expr_l_eq : ∀ l, e_r02_Expr_l l = List.map e_r02_Expr l
  | [] => rfl
  | x :: xs => by rw [e_r02_Expr_l, e_r02_Expr_l_eq xs]; rfl
theorem e_r02_Expr_eq (x : r02_Expr) : e_r02_Expr x = [.int .i64 x.Kind, .int .i64 x.Num, .str x.Name, .sl (List.map e_r02_Expr x.Kids)] := by
  cases x; rw [e_r02_Expr, e_r02_Expr_l_eq]
theorem e_r02_Expr_len (x : r02_Expr) : (e_r02_Expr x).length = 4 := by rw [e_r02_Expr_eq]; rfl
mutual
def e_r02_Arm : r02_Arm → List PV
  | .mk z_Tag z_Var z_Body => [.str z_Tag, .str z_Var, .sl (e_r02_Stmt_l z_Body)]
def e_r02_Arm_l : List r02_Arm → List (List PV)
  | [] => []
  | x :: xs => e_r02_Arm x :: e_r02_Arm_l xs
def e_r02_Stmt : r02_Stmt → List PV
  | .mk z_Kind z_Name z_Tag z_E z_C z_Body z_Else z_Arms => [.int .i64 z_Kind, .str z_Name, .str z_Tag, .int .i64 z_E.Kind, .int .i64 z_E.Num, .str z_E.Name, .sl (List.map e_r02_Expr z_E.Kids), .int .i64 z_C.Op, .int .i64 z_C.L.Kind, .int .i64 z_C.L.Num, .str z_C.L.Name, .sl (List.map e_r02_Expr z_C.L.Kids), .int .i64 z_C.R.Kind, .int .i64 z_C.R.Num, .str z_C.R.Name, .sl (List.map e_r02_Expr z_C.R.Kids), .sl (e_r02_Stmt_l z_Body), .sl (e_r02_Stmt_l z_Else), .sl (e_r02_Arm_l z_Arms)]
def e_r02_Stmt_l : List r02_Stmt → List (List PV)
  | [] => []
  | x :: xs => e_r02_Stmt x :: e_r02_Stmt_l xs
end
theorem e_r02_Arm_l_eq : ∀ l, e_r02_Arm_l l = List.map e_r02_Arm l
  | [] => by rw [e_r02_Arm_l]; rfl
  | x :: xs => by rw [e_r02_Arm_l, e_r02_Arm_l_eq xs]; rfl
theorem e_r02_Stmt_l_eq : ∀ l, e_r02_Stmt_l l = List.map e_r02_Stmt l
  | [] => by rw [e_r02_Stmt_l]; rfl
  | x :: xs => by rw [e_r02_Stmt_l, e_r02_Stmt_l_eq xs]; rfl
theorem e_r02_Arm_eq (x : r02_Arm) : e_r02_Arm x = [.str x.Tag, .str x.Var, .sl (List.map e_r02_Stmt x.Body)] := by
  cases x; rw [e_r02_Arm]; simp only [e_r02_Stmt_l_eq]; first | done | rfl
theorem e_r02_Arm_len (x : r02_Arm) : (e_r02_Arm x).length = 3 := by rw [e_r02_Arm_eq]; rfl
theorem e_r02_Stmt_eq (x : r02_Stmt) : e_r02_Stmt x = [.int .i64 x.Kind, .str x.Name, .str x.Tag, .int .i64 x.E.Kind, .int .i64 x.E.Num, .str x.E.Name, .sl (List.map e_r02_Expr x.E.Kids), .int .i64 x.C.Op, .int .i64 x.C.L.Kind, .int .i64 x.C.L.Num, .str x.C.L.Name, .sl (List.map e_r02_Expr x.C.L.Kids), .int .i64 x.C.R.Kind, .int .i64 x.C.R.Num, .str x.C.R.Name, .sl (List.map e_r02_Expr x.C.R.Kids), .sl (List.map e_r02_Stmt x.Body), .sl (List.map e_r02_Stmt x.Else), .sl (List.map e_r02_Arm x.Arms)] := by
  cases x; rw [e_r02_Stmt]; simp only [e_r02_Arm_l_eq, e_r02_Stmt_l_eq]; first | done | rfl
theorem e_r02_Stmt_len (x : r02_Stmt) : (e_r02_Stmt x).length = 19 := by rw [e_r02_Stmt_eq]; rfl

def e_str (x : ByteArray) : List PV := [.str x]
def e_r02_Proc (x : r02_Proc) : List PV := [.str x.Name, .sl (List.map e_str x.Vars), .sl (List.map e_r02_Stmt x.Body)]
structure r02_System where
  Chans : (List r02_Chan)
  Rules : (List r02_Rule)
  Procs : (List r02_Proc)
structure ast_System where
  Chans : (List ast_Chan)
  Rules : (List ast_Rule)
  Procs : (List ast_Proc)
def e_r02_Chan (x : r02_Chan) : List PV := [.str x.Name, .int .i64 x.Kind, .int .i64 x.Size, .str x.From, .str x.To, .sl (List.map e_str x.Tags)]
def e_ast_Chan (x : ast_Chan) : List PV := [.str x.Name, .int .i64 x.Kind, .int .i64 x.Size, .str x.From, .str x.To, .sl (List.map e_str x.Tags)]
def e_r02_Move (x : r02_Move) : List PV := [.int .i64 x.From, .str x.Tag, .int .i64 x.To]
def e_r02_Rule (x : r02_Rule) : List PV := [.str x.Chan, .sl (List.map e_r02_Move x.Moves)]
def e_ast_Move (x : ast_Move) : List PV := [.int .i64 x.From, .str x.Tag, .int .i64 x.To]
def e_ast_Rule (x : ast_Rule) : List PV := [.str x.Chan, .sl (List.map e_ast_Move x.Moves)]
def e_r02_System (x : r02_System) : List PV := [.sl (List.map e_r02_Chan x.Chans), .sl (List.map e_r02_Rule x.Rules), .sl (List.map e_r02_Proc x.Procs)]
mutual
def e_ast_Expr : ast_Expr → List PV
  | .mk z_Kind z_Num z_Name z_Kids => [.int .i64 z_Kind, .int .i64 z_Num, .str z_Name, .sl (e_ast_Expr_l z_Kids)]
def e_ast_Expr_l : List ast_Expr → List (List PV)
  | [] => []
  | x :: xs => e_ast_Expr x :: e_ast_Expr_l xs
end
theorem e_ast_Expr_l_eq : ∀ l, e_ast_Expr_l l = List.map e_ast_Expr l
  | [] => rfl
  | x :: xs => by rw [e_ast_Expr_l, e_ast_Expr_l_eq xs]; rfl
theorem e_ast_Expr_eq (x : ast_Expr) : e_ast_Expr x = [.int .i64 x.Kind, .int .i64 x.Num, .str x.Name, .sl (List.map e_ast_Expr x.Kids)] := by
  cases x; rw [e_ast_Expr, e_ast_Expr_l_eq]
theorem e_ast_Expr_len (x : ast_Expr) : (e_ast_Expr x).length = 4 := by rw [e_ast_Expr_eq]; rfl
def e_ast_Cond (x : ast_Cond) : List PV := [.int .i64 x.Op, .int .i64 x.L.Kind, .int .i64 x.L.Num, .str x.L.Name, .sl (List.map e_ast_Expr x.L.Kids), .int .i64 x.R.Kind, .int .i64 x.R.Num, .str x.R.Name, .sl (List.map e_ast_Expr x.R.Kids)]
def e_r02_Cond (x : r02_Cond) : List PV := [.int .i64 x.Op, .int .i64 x.L.Kind, .int .i64 x.L.Num, .str x.L.Name, .sl (List.map e_r02_Expr x.L.Kids), .int .i64 x.R.Kind, .int .i64 x.R.Num, .str x.R.Name, .sl (List.map e_r02_Expr x.R.Kids)]
mutual
def e_ast_Arm : ast_Arm → List PV
  | .mk z_Tag z_Var z_Body => [.str z_Tag, .str z_Var, .sl (e_ast_Stmt_l z_Body)]
def e_ast_Arm_l : List ast_Arm → List (List PV)
  | [] => []
  | x :: xs => e_ast_Arm x :: e_ast_Arm_l xs
def e_ast_Stmt : ast_Stmt → List PV
  | .mk z_Kind z_Name z_Tag z_E z_C z_Body z_Else z_Arms => [.int .i64 z_Kind, .str z_Name, .str z_Tag, .int .i64 z_E.Kind, .int .i64 z_E.Num, .str z_E.Name, .sl (List.map e_ast_Expr z_E.Kids), .int .i64 z_C.Op, .int .i64 z_C.L.Kind, .int .i64 z_C.L.Num, .str z_C.L.Name, .sl (List.map e_ast_Expr z_C.L.Kids), .int .i64 z_C.R.Kind, .int .i64 z_C.R.Num, .str z_C.R.Name, .sl (List.map e_ast_Expr z_C.R.Kids), .sl (e_ast_Stmt_l z_Body), .sl (e_ast_Stmt_l z_Else), .sl (e_ast_Arm_l z_Arms)]
def e_ast_Stmt_l : List ast_Stmt → List (List PV)
  | [] => []
  | x :: xs => e_ast_Stmt x :: e_ast_Stmt_l xs
end
theorem e_ast_Arm_l_eq : ∀ l, e_ast_Arm_l l = List.map e_ast_Arm l
  | [] => by rw [e_ast_Arm_l]; rfl
  | x :: xs => by rw [e_ast_Arm_l, e_ast_Arm_l_eq xs]; rfl
theorem e_ast_Stmt_l_eq : ∀ l, e_ast_Stmt_l l = List.map e_ast_Stmt l
  | [] => by rw [e_ast_Stmt_l]; rfl
  | x :: xs => by rw [e_ast_Stmt_l, e_ast_Stmt_l_eq xs]; rfl
theorem e_ast_Arm_eq (x : ast_Arm) : e_ast_Arm x = [.str x.Tag, .str x.Var, .sl (List.map e_ast_Stmt x.Body)] := by
  cases x; rw [e_ast_Arm]; simp only [e_ast_Stmt_l_eq]; first | done | rfl
theorem e_ast_Arm_len (x : ast_Arm) : (e_ast_Arm x).length = 3 := by rw [e_ast_Arm_eq]; rfl
theorem e_ast_Stmt_eq (x : ast_Stmt) : e_ast_Stmt x = [.int .i64 x.Kind, .str x.Name, .str x.Tag, .int .i64 x.E.Kind, .int .i64 x.E.Num, .str x.E.Name, .sl (List.map e_ast_Expr x.E.Kids), .int .i64 x.C.Op, .int .i64 x.C.L.Kind, .int .i64 x.C.L.Num, .str x.C.L.Name, .sl (List.map e_ast_Expr x.C.L.Kids), .int .i64 x.C.R.Kind, .int .i64 x.C.R.Num, .str x.C.R.Name, .sl (List.map e_ast_Expr x.C.R.Kids), .sl (List.map e_ast_Stmt x.Body), .sl (List.map e_ast_Stmt x.Else), .sl (List.map e_ast_Arm x.Arms)] := by
  cases x; rw [e_ast_Stmt]; simp only [e_ast_Arm_l_eq, e_ast_Stmt_l_eq]; first | done | rfl
theorem e_ast_Stmt_len (x : ast_Stmt) : (e_ast_Stmt x).length = 19 := by rw [e_ast_Stmt_eq]; rfl

def e_ast_Proc (x : ast_Proc) : List PV := [.str x.Name, .sl (List.map e_str x.Vars), .sl (List.map e_ast_Stmt x.Body)]
def e_ast_System (x : ast_System) : List PV := [.sl (List.map e_ast_Chan x.Chans), .sl (List.map e_ast_Rule x.Rules), .sl (List.map e_ast_Proc x.Procs)]
structure ast_writer where
  f_out : (List ByteArray)
  f_form : Bool
  f_deep : Bool
  f_blocks : Int
  f_parens : Int
structure lex_Token where
  Kind : Int
  Text : ByteArray
  Num : Int
  At : Int
def e_lex_Token (x : lex_Token) : List PV := [.int .i64 x.Kind, .str x.Text, .int .i64 x.Num, .int .i64 x.At]
structure r01_Token where
  Kind : Int
  Text : ByteArray
  Num : Int
  At : Int
def e_r01_Token (x : r01_Token) : List PV := [.int .i64 x.Kind, .str x.Text, .int .i64 x.Num, .int .i64 x.At]
def e_sl27 (x : (List r02_Stmt)) : List PV := [.sl (List.map e_r02_Stmt x)]

def f_r02_Stmt (x : r02_Stmt) : List PV := [.int .i64 x.Kind, .str x.Name, .str x.Tag, .int .i64 x.E.Kind, .int .i64 x.E.Num, .str x.E.Name, .sl (List.map e_r02_Expr x.E.Kids), .int .i64 x.C.Op, .int .i64 x.C.L.Kind, .int .i64 x.C.L.Num, .str x.C.L.Name, .sl (List.map e_r02_Expr x.C.L.Kids), .int .i64 x.C.R.Kind, .int .i64 x.C.R.Num, .str x.C.R.Name, .sl (List.map e_r02_Expr x.C.R.Kids), .sl (List.map e_r02_Stmt x.Body), .sl (List.map e_r02_Stmt x.Else), .sl (List.map e_r02_Arm x.Arms)]
def f_r02_Expr (x : r02_Expr) : List PV := [.int .i64 x.Kind, .int .i64 x.Num, .str x.Name, .sl (List.map e_r02_Expr x.Kids)]
def f_ast_Expr (x : ast_Expr) : List PV := [.int .i64 x.Kind, .int .i64 x.Num, .str x.Name, .sl (List.map e_ast_Expr x.Kids)]
def f_r02_Arm (x : r02_Arm) : List PV := [.str x.Tag, .str x.Var, .sl (List.map e_r02_Stmt x.Body)]
def f_ast_Stmt (x : ast_Stmt) : List PV := [.int .i64 x.Kind, .str x.Name, .str x.Tag, .int .i64 x.E.Kind, .int .i64 x.E.Num, .str x.E.Name, .sl (List.map e_ast_Expr x.E.Kids), .int .i64 x.C.Op, .int .i64 x.C.L.Kind, .int .i64 x.C.L.Num, .str x.C.L.Name, .sl (List.map e_ast_Expr x.C.L.Kids), .int .i64 x.C.R.Kind, .int .i64 x.C.R.Num, .str x.C.R.Name, .sl (List.map e_ast_Expr x.C.R.Kids), .sl (List.map e_ast_Stmt x.Body), .sl (List.map e_ast_Stmt x.Else), .sl (List.map e_ast_Arm x.Arms)]
def f_ast_Arm (x : ast_Arm) : List PV := [.str x.Tag, .str x.Var, .sl (List.map e_ast_Stmt x.Body)]
noncomputable def l02_Expr_l1 (F_l02_Expr : r02_Expr → Option ast_Expr) (a0 : r02_Expr) (x1 : (Int × (List ast_Expr))) : Option (Sum (Int × (List ast_Expr)) (Sum ast_Expr (List ast_Expr))) :=
 if (decide (x1.1 < (a0.Kids.length : Int))) then (idx a0.Kids x1.1 >>= fun v1 =>
 F_l02_Expr v1 >>= fun v2 =>
 app 56 x1.2 [v2] >>= fun v3 =>
 some (.inl ((IntKind.i64.wrap (x1.1 + 1)), v3)))
 else (some (.inr (.inr x1.2)))

def r_l02_Expr (r : ast_Expr) : List XV := [.agg (bs (f_ast_Expr r))]

def o_l02_Expr (r : ast_Expr) : Store := []

noncomputable def R_l02_Expr (r : ast_Expr) : Tg := .r false Tryz.f36.results.toList 0 (r_l02_Expr r) (o_l02_Expr r)

noncomputable def l02_ExprN : Nat → r02_Expr → Option ast_Expr
  | 0, _ => none
  | n + 1, a0 => iter (l02_Expr_l1 (l02_ExprN n) a0) (0, []) >>= Sum.elim (fun _ => none) (fun j1 =>
 some (ast_Expr.mk a0.Kind a0.Num a0.Name j1))

noncomputable def l02_Expr (a0 : r02_Expr) : Option ast_Expr := unf fun n => l02_ExprN n a0

noncomputable def l02_Cond (a0 : r02_Cond) : Option ast_Cond :=
 l02_Expr a0.L >>= fun v1 =>
 l02_Expr a0.R >>= fun v2 =>
 some (ast_Cond.mk a0.Op v1 v2)

def r_l02_Cond (r : ast_Cond) : List XV := [.agg (bs (e_ast_Cond r))]

def o_l02_Cond (r : ast_Cond) : Store := []

noncomputable def R_l02_Cond (r : ast_Cond) : Tg := .r false Tryz.f37.results.toList 0 (r_l02_Cond r) (o_l02_Cond r)

noncomputable def l02_Stmts_l2 (F_l02_Stmts : (List r02_Stmt) → Option (List ast_Stmt)) (v1 : r02_Stmt) (x2 : (Int × (List ast_Arm))) : Option (Sum (Int × (List ast_Arm)) (Sum (List ast_Stmt) (List ast_Arm))) :=
 if (decide (x2.1 < (v1.Arms.length : Int))) then (idx v1.Arms x2.1 >>= fun v6 =>
 F_l02_Stmts v6.Body >>= fun v7 =>
 app 56 x2.2 [(ast_Arm.mk v6.Tag v6.Var v7)] >>= fun v8 =>
 some (.inl ((IntKind.i64.wrap (x2.1 + 1)), v8)))
 else (some (.inr (.inr x2.2)))

noncomputable def l02_Stmts_l1 (F_l02_Stmts : (List r02_Stmt) → Option (List ast_Stmt)) (a0 : (List r02_Stmt)) (x1 : (Int × (List ast_Stmt))) : Option (Sum (Int × (List ast_Stmt)) (Sum (List ast_Stmt) (List ast_Stmt))) :=
 if (decide (x1.1 < (a0.length : Int))) then (idx a0 x1.1 >>= fun v1 =>
 l02_Expr v1.E >>= fun v2 =>
 l02_Cond v1.C >>= fun v3 =>
 F_l02_Stmts v1.Body >>= fun v4 =>
 F_l02_Stmts v1.Else >>= fun v5 =>
 iter (l02_Stmts_l2 F_l02_Stmts v1) (0, []) >>= Sum.elim (fun _ => none) (fun j2 =>
 app 288 x1.2 [(ast_Stmt.mk v1.Kind v1.Name v1.Tag v2 v3 v4 v5 j2)] >>= fun v9 =>
 some (.inl ((IntKind.i64.wrap (x1.1 + 1)), v9))))
 else (some (.inr (.inr x1.2)))

def r_l02_Stmts (r : (List ast_Stmt)) : List XV := [xL (List.map e_ast_Stmt r)]

def o_l02_Stmts (r : (List ast_Stmt)) : Store := []

noncomputable def R_l02_Stmts (r : (List ast_Stmt)) : Tg := .r false Tryz.f14.results.toList 0 (r_l02_Stmts r) (o_l02_Stmts r)

noncomputable def l02_StmtsN : Nat → (List r02_Stmt) → Option (List ast_Stmt)
  | 0, _ => none
  | n + 1, a0 => iter (l02_Stmts_l1 (l02_StmtsN n) a0) (0, []) >>= Sum.elim (fun _ => none) (fun j1 =>
 some j1)

noncomputable def l02_Stmts (a0 : (List r02_Stmt)) : Option (List ast_Stmt) := unf fun n => l02_StmtsN n a0

noncomputable def l02_System_l1 (a0 : r02_System) (x1 : (Int × (List ast_Chan))) : Option (Sum (Int × (List ast_Chan)) (Sum ast_System (List ast_Chan))) :=
 if (decide (x1.1 < (a0.Chans.length : Int))) then (idx a0.Chans x1.1 >>= fun v1 =>
 app 16 [] v1.Tags >>= fun v2 =>
 app 88 x1.2 [(ast_Chan.mk v1.Name v1.Kind v1.Size v1.From v1.To v2)] >>= fun v3 =>
 some (.inl ((IntKind.i64.wrap (x1.1 + 1)), v3)))
 else (some (.inr (.inr x1.2)))

noncomputable def l02_System_l3 (a0 : r02_System) (x2 : (Int × (List ast_Rule))) (x3 : (Int × (List ast_Move))) : Option (Sum (Int × (List ast_Move)) (Sum ast_System (List ast_Move))) :=
 idx a0.Rules x2.1 >>= fun v5 =>
 if (decide (x3.1 < (v5.Moves.length : Int))) then (idx a0.Rules x2.1 >>= fun v6 =>
 idx v6.Moves x3.1 >>= fun v7 =>
 app 32 x3.2 [(ast_Move.mk v7.From v7.Tag v7.To)] >>= fun v8 =>
 some (.inl ((IntKind.i64.wrap (x3.1 + 1)), v8)))
 else (some (.inr (.inr x3.2)))

noncomputable def l02_System_l2 (a0 : r02_System) (x2 : (Int × (List ast_Rule))) : Option (Sum (Int × (List ast_Rule)) (Sum ast_System (List ast_Rule))) :=
 if (decide (x2.1 < (a0.Rules.length : Int))) then (idx a0.Rules x2.1 >>= fun v4 =>
 iter (l02_System_l3 a0 x2) (0, []) >>= Sum.elim (fun _ => none) (fun j3 =>
 app 40 x2.2 [(ast_Rule.mk v4.Chan j3)] >>= fun v9 =>
 some (.inl ((IntKind.i64.wrap (x2.1 + 1)), v9))))
 else (some (.inr (.inr x2.2)))

noncomputable def l02_System_l4 (a0 : r02_System) (x4 : (Int × (List ast_Proc))) : Option (Sum (Int × (List ast_Proc)) (Sum ast_System (List ast_Proc))) :=
 if (decide (x4.1 < (a0.Procs.length : Int))) then (idx a0.Procs x4.1 >>= fun v10 =>
 app 16 [] v10.Vars >>= fun v11 =>
 l02_Stmts v10.Body >>= fun v12 =>
 app 64 x4.2 [(ast_Proc.mk v10.Name v11 v12)] >>= fun v13 =>
 some (.inl ((IntKind.i64.wrap (x4.1 + 1)), v13)))
 else (some (.inr (.inr x4.2)))

noncomputable def l02_System (a0 : r02_System) : Option ast_System :=
 iter (l02_System_l1 a0) (0, []) >>= Sum.elim (fun _ => none) (fun j1 =>
 iter (l02_System_l2 a0) (0, []) >>= Sum.elim (fun _ => none) (fun j2 =>
 iter (l02_System_l4 a0) (0, []) >>= Sum.elim (fun _ => none) (fun j4 =>
 some (ast_System.mk j1 j2 j4))))

def r_l02_System (r : ast_System) : List XV := [.agg (bs (e_ast_System r))]

def o_l02_System (r : ast_System) : Store := []

noncomputable def R_l02_System (r : ast_System) : Tg := .r false Tryz.f6.results.toList 0 (r_l02_System r) (o_l02_System r)

noncomputable def ast_writer_put (a0 : ast_writer) (a1 : (List ByteArray)) : Option ast_writer :=
 app 16 a0.f_out a1 >>= fun v1 =>
 some (ast_writer.mk v1 a0.f_form a0.f_deep a0.f_blocks a0.f_parens)

def r_ast_writer_put (r : ast_writer) : List XV := []

def o_ast_writer_put (r : ast_writer) : Store := [oB 57 [.row 1, .pv (.bool r.f_form), .pv (.bool r.f_deep), .pv (.int .i64 r.f_blocks), .pv (.int .i64 r.f_parens)], oR true 9 1 (List.map e_str r.f_out)]

noncomputable def R_ast_writer_put (r : ast_writer) : Tg := .r false Tryz.f31.results.toList 2 (r_ast_writer_put r) (o_ast_writer_put r)

noncomputable def lex_letter (a0 : Int) : Option Bool :=
 if (decide (a0 ≥ 97)) then (some (decide (a0 ≤ 122)))
 else (some false)

def r_lex_letter (r : Bool) : List XV := [xB r]

def o_lex_letter (r : Bool) : Store := []

noncomputable def R_lex_letter (r : Bool) : Tg := .r false Tryz.f72.results.toList 0 (r_lex_letter r) (o_lex_letter r)

noncomputable def lex_digit (a0 : Int) : Option Bool :=
 if (decide (a0 ≥ 48)) then (some (decide (a0 ≤ 57)))
 else (some false)

def r_lex_digit (r : Bool) : List XV := [xB r]

def o_lex_digit (r : Bool) : Store := []

noncomputable def R_lex_digit (r : Bool) : Tg := .r false Tryz.f75.results.toList 0 (r_lex_digit r) (o_lex_digit r)

noncomputable def lex_run_l1 (a0 : ByteArray) (x1 : Int) : Option (Sum Int (Sum Int Int)) :=
 ((if (decide (x1 < (a0.size : Int))) then (bidx a0 x1 >>= fun v1 =>
 lex_letter v1 >>= fun v2 =>
 if v2 then (some true)
 else (bidx a0 x1 >>= fun v3 =>
 lex_digit v3 >>= fun v4 =>
 some v4))
 else (some false) : Option Bool) >>= fun j2 =>
 if j2 then (some (.inl (IntKind.i64.wrap (x1 + 1))))
 else (some (.inr (.inr x1))))

noncomputable def lex_run (a0 : ByteArray) : Option Int :=
 iter (lex_run_l1 a0) 0 >>= Sum.elim (fun _ => none) (fun j1 =>
 some j1)

def r_lex_run (r : Int) : List XV := [xI r]

def o_lex_run (r : Int) : Store := []

noncomputable def R_lex_run (r : Int) : Tg := .r false Tryz.f74.results.toList 0 (r_lex_run r) (o_lex_run r)

noncomputable def lex_Reserved (a0 : ByteArray) : Option Bool :=
 if (a0.toList == (ByteArray.mk #[99, 104, 97, 110]).toList) then (some true)
 else (if (a0.toList == (ByteArray.mk #[98, 108, 111, 99, 107]).toList) then (some true)
 else (if (a0.toList == (ByteArray.mk #[100, 114, 111, 112]).toList) then (some true)
 else (if (a0.toList == (ByteArray.mk #[108, 111, 115, 115, 121]).toList) then (some true)
 else (if (a0.toList == (ByteArray.mk #[102, 114, 111, 109]).toList) then (some true)
 else (if (a0.toList == (ByteArray.mk #[116, 111]).toList) then (some true)
 else (if (a0.toList == (ByteArray.mk #[114, 117, 108, 101]).toList) then (some true)
 else (if (a0.toList == (ByteArray.mk #[112, 114, 111, 99]).toList) then (some true)
 else (if (a0.toList == (ByteArray.mk #[118, 97, 114]).toList) then (some true)
 else (if (a0.toList == (ByteArray.mk #[105, 102]).toList) then (some true)
 else (if (a0.toList == (ByteArray.mk #[101, 108, 115, 101]).toList) then (some true)
 else (if (a0.toList == (ByteArray.mk #[119, 104, 105, 108, 101]).toList) then (some true)
 else (if (a0.toList == (ByteArray.mk #[115, 101, 110, 100]).toList) then (some true)
 else (if (a0.toList == (ByteArray.mk #[114, 101, 99, 118]).toList) then (some true)
 else (if (a0.toList == (ByteArray.mk #[97, 115, 115, 101, 114, 116]).toList) then (some true)
 else (if (a0.toList == (ByteArray.mk #[105, 110, 112, 117, 116]).toList) then (some true)
 else (some false))))))))))))))))

def r_lex_Reserved (r : Bool) : List XV := [xB r]

def o_lex_Reserved (r : Bool) : Store := []

noncomputable def R_lex_Reserved (r : Bool) : Tg := .r false Tryz.f86.results.toList 0 (r_lex_Reserved r) (o_lex_Reserved r)

noncomputable def lex_named (a0 : ByteArray) : Option (lex_Token × Int) :=
 if (decide ((a0.size : Int) > 12)) then (some ((lex_Token.mk 0 (ByteArray.mk #[]) 0 0), 3))
 else (lex_Reserved a0 >>= fun v1 =>
 if v1 then (some ((lex_Token.mk 4 a0 0 0), 0))
 else (some ((lex_Token.mk 1 a0 0 0), 0)))

def r_lex_named (r : (lex_Token × Int)) : List XV := [.agg (bs (e_lex_Token r.1)), xI r.2]

def o_lex_named (r : (lex_Token × Int)) : Store := []

noncomputable def R_lex_named (r : (lex_Token × Int)) : Tg := .r false Tryz.f73.results.toList 0 (r_lex_named r) (o_lex_named r)

def r_lexnum (r : (Int × Int)) : List XV := [xI r.1, xI r.2]

def o_lexnum (r : (Int × Int)) : Store := []

def r_ibyte (r : Int) : List XV := [xI r]

def o_ibyte (r : Int) : Store := []

noncomputable def lex_sign (a0 : ByteArray) : Option Int :=
 ((if (decide ((a0.size : Int) > 1)) then (bidx a0 1 >>= fun v1 =>
 if (v1 == 61) then (bidx a0 0 >>= fun v2 =>
 ibyte (ByteArray.mk #[61, 33, 60, 62]) v2 >>= fun v3 =>
 some (decide (v3 ≥ 0)))
 else (some false))
 else (some false) : Option Bool) >>= fun j1 =>
 if j1 then (some 2)
 else (bidx a0 0 >>= fun v4 =>
 ibyte (ByteArray.mk #[123, 125, 40, 41, 59, 44, 46, 61, 60, 62, 43, 45, 42, 47, 37]) v4 >>= fun v5 =>
 if (decide (v5 ≥ 0)) then (some 1)
 else (some 0)))

def r_lex_sign (r : Int) : List XV := [xI r]

def o_lex_sign (r : Int) : Store := []

noncomputable def R_lex_sign (r : Int) : Tg := .r false Tryz.f77.results.toList 0 (r_lex_sign r) (o_lex_sign r)

noncomputable def lex_word (a0 : ByteArray) : Option (lex_Token × Int) :=
 bidx a0 0 >>= fun v1 =>
 lex_letter v1 >>= fun v2 =>
 if v2 then (lex_run a0 >>= fun v3 =>
 ssub a0 0 v3 >>= fun v4 =>
 lex_named v4 >>= fun v5 =>
 some (v5.1, v5.2))
 else (bidx a0 0 >>= fun v6 =>
 lex_digit v6 >>= fun v7 =>
 if v7 then (lex_run a0 >>= fun v8 =>
 ssub a0 0 v8 >>= fun v9 =>
 lexnum v9 >>= fun v10 =>
 some ((lex_Token.mk 2 v9 v10.1 0), v10.2))
 else (lex_sign a0 >>= fun v11 =>
 if (v11 == 0) then (some ((lex_Token.mk 0 (ByteArray.mk #[]) 0 0), 2))
 else (ssub a0 0 v11 >>= fun v12 =>
 some ((lex_Token.mk 3 v12 0 0), 0))))

def r_lex_word (r : (lex_Token × Int)) : List XV := [.agg (bs (e_lex_Token r.1)), xI r.2]

def o_lex_word (r : (lex_Token × Int)) : Store := []

noncomputable def R_lex_word (r : (lex_Token × Int)) : Tg := .r false Tryz.f62.results.toList 0 (r_lex_word r) (o_lex_word r)

noncomputable def lex_Lex_l1 (a0 : ByteArray) (x1 : (Int × (List lex_Token))) : Option (Sum (Int × (List lex_Token)) (Sum ((List lex_Token) × Int × Int) (List lex_Token))) :=
 if (decide (x1.1 < (a0.size : Int))) then (((bidx a0 x1.1 >>= fun v1 =>
 if (v1 == 32) then (some true)
 else (bidx a0 x1.1 >>= fun v2 =>
 some (v2 == 10)) : Option Bool) >>= fun j2 =>
 if j2 then (some (.inl ((IntKind.i64.wrap (x1.1 + 1)), x1.2)))
 else (ssub a0 x1.1 (a0.size : Int) >>= fun v3 =>
 lex_word v3 >>= fun v4 =>
 if (v4.2 != 0) then (some (.inr (.inl ([], x1.1, v4.2))))
 else (app 40 x1.2 [(lex_Token.mk v4.1.Kind v4.1.Text v4.1.Num x1.1)] >>= fun v5 =>
 some (.inl ((IntKind.i64.wrap (x1.1 + (v4.1.Text.size : Int))), v5))))))
 else (some (.inr (.inr x1.2)))

noncomputable def lex_Lex (a0 : ByteArray) : Option ((List lex_Token) × Int × Int) :=
 iter (lex_Lex_l1 a0) (0, []) >>= Sum.elim (fun r => some r) (fun j1 =>
 if (decide ((j1.length : Int) > 2000)) then (some ([], (a0.size : Int), 4))
 else (some (j1, 0, 0)))

def r_lex_Lex (r : ((List lex_Token) × Int × Int)) : List XV := [xL (List.map e_lex_Token r.1), xI r.2.1, xI r.2.2]

def o_lex_Lex (r : ((List lex_Token) × Int × Int)) : Store := []

noncomputable def R_lex_Lex (r : ((List lex_Token) × Int × Int)) : Tg := .r false Tryz.f50.results.toList 0 (r_lex_Lex r) (o_lex_Lex r)

noncomputable def ast_writer_must (a0 : ast_writer) (a1 : Bool) : Option ast_writer :=
 if a0.f_form then (some (ast_writer.mk a0.f_out true a0.f_deep a0.f_blocks a0.f_parens))
 else (some (ast_writer.mk a0.f_out (!a1) a0.f_deep a0.f_blocks a0.f_parens))

def r_ast_writer_must (r : ast_writer) : List XV := []

def o_ast_writer_must (r : ast_writer) : Store := [oB 57 [.row 1, .pv (.bool r.f_form), .pv (.bool r.f_deep), .pv (.int .i64 r.f_blocks), .pv (.int .i64 r.f_parens)], oR true 9 1 (List.map e_str r.f_out)]

noncomputable def R_ast_writer_must (r : ast_writer) : Tg := .r false Tryz.f33.results.toList 2 (r_ast_writer_must r) (o_ast_writer_must r)

noncomputable def ast_writer_name (a0 : ast_writer) (a1 : ByteArray) : Option ast_writer :=
 lex_Lex a1 >>= fun v1 =>
 ((if (v1.2.2 == 0) then (if ((v1.1.length : Int) == 1) then (idx v1.1 0 >>= fun v2 =>
 if (v2.Kind == 1) then (idx v1.1 0 >>= fun v3 =>
 ast_writer_must a0 (v3.Text.toList == a1.toList) >>= fun v4 =>
 some (v4.f_form, v4.f_deep, v4.f_blocks, v4.f_parens, v4.f_out))
 else (ast_writer_must a0 false >>= fun v5 =>
 some (v5.f_form, v5.f_deep, v5.f_blocks, v5.f_parens, v5.f_out)))
 else (ast_writer_must a0 false >>= fun v6 =>
 some (v6.f_form, v6.f_deep, v6.f_blocks, v6.f_parens, v6.f_out)))
 else (ast_writer_must a0 false >>= fun v7 =>
 some (v7.f_form, v7.f_deep, v7.f_blocks, v7.f_parens, v7.f_out)) : Option (Bool × Bool × Int × Int × (List ByteArray))) >>= fun j1 =>
 ast_writer_put (ast_writer.mk j1.2.2.2.2 j1.1 j1.2.1 j1.2.2.1 j1.2.2.2.1) [a1] >>= fun v8 =>
 some v8)

def r_ast_writer_name (r : ast_writer) : List XV := []

def o_ast_writer_name (r : ast_writer) : Store := [oB 57 [.row 1, .pv (.bool r.f_form), .pv (.bool r.f_deep), .pv (.int .i64 r.f_blocks), .pv (.int .i64 r.f_parens)], oR true 9 1 (List.map e_str r.f_out)]

noncomputable def R_ast_writer_name (r : ast_writer) : Tg := .r false Tryz.f32.results.toList 2 (r_ast_writer_name r) (o_ast_writer_name r)

def r_itoa (r : ByteArray) : List XV := [xS r]

def o_itoa (r : ByteArray) : Store := []

noncomputable def ast_writer_number (a0 : ast_writer) (a1 : Int) : Option ast_writer :=
 ((if (decide (a1 ≥ 0)) then (ast_writer_must a0 (decide (a1 ≤ 2147483647)) >>= fun v1 =>
 some (v1.f_form, v1.f_deep, v1.f_blocks, v1.f_parens, v1.f_out))
 else (ast_writer_must a0 false >>= fun v2 =>
 some (v2.f_form, v2.f_deep, v2.f_blocks, v2.f_parens, v2.f_out)) : Option (Bool × Bool × Int × Int × (List ByteArray))) >>= fun j1 =>
 itoa a1 >>= fun v3 =>
 ast_writer_put (ast_writer.mk j1.2.2.2.2 j1.1 j1.2.1 j1.2.2.1 j1.2.2.2.1) [v3] >>= fun v4 =>
 some v4)

def r_ast_writer_number (r : ast_writer) : List XV := []

def o_ast_writer_number (r : ast_writer) : Store := [oB 57 [.row 1, .pv (.bool r.f_form), .pv (.bool r.f_deep), .pv (.int .i64 r.f_blocks), .pv (.int .i64 r.f_parens)], oR true 9 1 (List.map e_str r.f_out)]

noncomputable def R_ast_writer_number (r : ast_writer) : Tg := .r false Tryz.f34.results.toList 2 (r_ast_writer_number r) (o_ast_writer_number r)

noncomputable def ast_writer_channel_l2 (a1 : ast_Chan) (x2 : (Int × Bool × Bool × Int × Int × (List ByteArray))) : Option (Sum (Int × Bool × Bool × Int × Int × (List ByteArray)) (Sum ast_writer (Bool × Bool × Int × Int × (List ByteArray)))) :=
 if (decide (x2.1 < (a1.Tags.length : Int))) then (((idx a1.Tags x2.1 >>= fun v11 =>
 if (decide (x2.1 > 0)) then (ast_writer_put (ast_writer.mk x2.2.2.2.2.2 x2.2.1 x2.2.2.1 x2.2.2.2.1 x2.2.2.2.2.1) [(ByteArray.mk #[44])] >>= fun v12 =>
 ast_writer_name v12 v11 >>= fun v13 =>
 some (v13.f_form, v13.f_deep, v13.f_blocks, v13.f_parens, v13.f_out))
 else (ast_writer_name (ast_writer.mk x2.2.2.2.2.2 x2.2.1 x2.2.2.1 x2.2.2.2.1 x2.2.2.2.2.1) v11 >>= fun v14 =>
 some (v14.f_form, v14.f_deep, v14.f_blocks, v14.f_parens, v14.f_out)) : Option (Bool × Bool × Int × Int × (List ByteArray))) >>= fun j3 =>
 some (.inl ((IntKind.i64.wrap (x2.1 + 1)), j3.1, j3.2.1, j3.2.2.1, j3.2.2.2.1, j3.2.2.2.2))))
 else (some (.inr (.inr (x2.2.1, x2.2.2.1, x2.2.2.2.1, x2.2.2.2.2.1, x2.2.2.2.2.2))))

noncomputable def ast_writer_channel_l4 (a1 : ast_Chan) (x4 : (Int × Bool × Bool × Int × Int × (List ByteArray))) : Option (Sum (Int × Bool × Bool × Int × Int × (List ByteArray)) (Sum ast_writer (Bool × Bool × Int × Int × (List ByteArray)))) :=
 if (decide (x4.1 < (a1.Tags.length : Int))) then (((idx a1.Tags x4.1 >>= fun v25 =>
 if (decide (x4.1 > 0)) then (ast_writer_put (ast_writer.mk x4.2.2.2.2.2 x4.2.1 x4.2.2.1 x4.2.2.2.1 x4.2.2.2.2.1) [(ByteArray.mk #[44])] >>= fun v26 =>
 ast_writer_name v26 v25 >>= fun v27 =>
 some (v27.f_form, v27.f_deep, v27.f_blocks, v27.f_parens, v27.f_out))
 else (ast_writer_name (ast_writer.mk x4.2.2.2.2.2 x4.2.1 x4.2.2.1 x4.2.2.2.1 x4.2.2.2.2.1) v25 >>= fun v28 =>
 some (v28.f_form, v28.f_deep, v28.f_blocks, v28.f_parens, v28.f_out)) : Option (Bool × Bool × Int × Int × (List ByteArray))) >>= fun j5 =>
 some (.inl ((IntKind.i64.wrap (x4.1 + 1)), j5.1, j5.2.1, j5.2.2.1, j5.2.2.2.1, j5.2.2.2.2))))
 else (some (.inr (.inr (x4.2.1, x4.2.2.1, x4.2.2.2.1, x4.2.2.2.2.1, x4.2.2.2.2.2))))

noncomputable def ast_writer_channel (a0 : ast_writer) (a1 : ast_Chan) : Option ast_writer :=
 ast_writer_put a0 [(ByteArray.mk #[99, 104, 97, 110])] >>= fun v1 =>
 ast_writer_name v1 a1.Name >>= fun v2 =>
 ((if (decide (a1.Kind < 0)) then (some true)
 else (some (decide (a1.Kind ≥ 3))) : Option Bool) >>= fun j1 =>
 if j1 then (ast_writer_must v2 false >>= fun v3 =>
 ast_writer_number v3 a1.Size >>= fun v4 =>
 ast_writer_put v4 [(ByteArray.mk #[102, 114, 111, 109])] >>= fun v5 =>
 ast_writer_name v5 a1.From >>= fun v6 =>
 ast_writer_put v6 [(ByteArray.mk #[116, 111])] >>= fun v7 =>
 ast_writer_name v7 a1.To >>= fun v8 =>
 ast_writer_put v8 [(ByteArray.mk #[123])] >>= fun v9 =>
 ast_writer_must v9 (decide ((a1.Tags.length : Int) > 0)) >>= fun v10 =>
 iter (ast_writer_channel_l2 a1) (0, v10.f_form, v10.f_deep, v10.f_blocks, v10.f_parens, v10.f_out) >>= Sum.elim (fun _ => none) (fun j2 =>
 ast_writer_put (ast_writer.mk j2.2.2.2.2 j2.1 j2.2.1 j2.2.2.1 j2.2.2.2.1) [(ByteArray.mk #[125]), (ByteArray.mk #[59])] >>= fun v15 =>
 some v15))
 else (idx [(ByteArray.mk #[98, 108, 111, 99, 107]), (ByteArray.mk #[100, 114, 111, 112]), (ByteArray.mk #[108, 111, 115, 115, 121])] a1.Kind >>= fun v16 =>
 ast_writer_put v2 [v16] >>= fun v17 =>
 ast_writer_number v17 a1.Size >>= fun v18 =>
 ast_writer_put v18 [(ByteArray.mk #[102, 114, 111, 109])] >>= fun v19 =>
 ast_writer_name v19 a1.From >>= fun v20 =>
 ast_writer_put v20 [(ByteArray.mk #[116, 111])] >>= fun v21 =>
 ast_writer_name v21 a1.To >>= fun v22 =>
 ast_writer_put v22 [(ByteArray.mk #[123])] >>= fun v23 =>
 ast_writer_must v23 (decide ((a1.Tags.length : Int) > 0)) >>= fun v24 =>
 iter (ast_writer_channel_l4 a1) (0, v24.f_form, v24.f_deep, v24.f_blocks, v24.f_parens, v24.f_out) >>= Sum.elim (fun _ => none) (fun j4 =>
 ast_writer_put (ast_writer.mk j4.2.2.2.2 j4.1 j4.2.1 j4.2.2.1 j4.2.2.2.1) [(ByteArray.mk #[125]), (ByteArray.mk #[59])] >>= fun v29 =>
 some v29)))

def r_ast_writer_channel (r : ast_writer) : List XV := []

def o_ast_writer_channel (r : ast_writer) : Store := [oB 57 [.row 1, .pv (.bool r.f_form), .pv (.bool r.f_deep), .pv (.int .i64 r.f_blocks), .pv (.int .i64 r.f_parens)], oR true 9 1 (List.map e_str r.f_out)]

noncomputable def R_ast_writer_channel (r : ast_writer) : Tg := .r false Tryz.f11.results.toList 2 (r_ast_writer_channel r) (o_ast_writer_channel r)

noncomputable def ast_writer_rule_l1 (a1 : ast_Rule) (x1 : (Int × Bool × Bool × Int × Int × (List ByteArray))) : Option (Sum (Int × Bool × Bool × Int × Int × (List ByteArray)) (Sum ast_writer (Bool × Bool × Int × Int × (List ByteArray)))) :=
 if (decide (x1.1 < (a1.Moves.length : Int))) then (idx a1.Moves x1.1 >>= fun v4 =>
 ast_writer_number (ast_writer.mk x1.2.2.2.2.2 x1.2.1 x1.2.2.1 x1.2.2.2.1 x1.2.2.2.2.1) v4.From >>= fun v5 =>
 ast_writer_name v5 v4.Tag >>= fun v6 =>
 ast_writer_number v6 v4.To >>= fun v7 =>
 ast_writer_put v7 [(ByteArray.mk #[59])] >>= fun v8 =>
 some (.inl ((IntKind.i64.wrap (x1.1 + 1)), v8.f_form, v8.f_deep, v8.f_blocks, v8.f_parens, v8.f_out)))
 else (some (.inr (.inr (x1.2.1, x1.2.2.1, x1.2.2.2.1, x1.2.2.2.2.1, x1.2.2.2.2.2))))

noncomputable def ast_writer_rule (a0 : ast_writer) (a1 : ast_Rule) : Option ast_writer :=
 ast_writer_put a0 [(ByteArray.mk #[114, 117, 108, 101])] >>= fun v1 =>
 ast_writer_name v1 a1.Chan >>= fun v2 =>
 ast_writer_put v2 [(ByteArray.mk #[123])] >>= fun v3 =>
 iter (ast_writer_rule_l1 a1) (0, v3.f_form, v3.f_deep, v3.f_blocks, v3.f_parens, v3.f_out) >>= Sum.elim (fun _ => none) (fun j1 =>
 ast_writer_put (ast_writer.mk j1.2.2.2.2 j1.1 j1.2.1 j1.2.2.1 j1.2.2.2.1) [(ByteArray.mk #[125])] >>= fun v9 =>
 some v9)

def r_ast_writer_rule (r : ast_writer) : List XV := []

def o_ast_writer_rule (r : ast_writer) : Store := [oB 57 [.row 1, .pv (.bool r.f_form), .pv (.bool r.f_deep), .pv (.int .i64 r.f_blocks), .pv (.int .i64 r.f_parens)], oR true 9 1 (List.map e_str r.f_out)]

noncomputable def R_ast_writer_rule (r : ast_writer) : Tg := .r false Tryz.f12.results.toList 2 (r_ast_writer_rule r) (o_ast_writer_rule r)

noncomputable def ast_pair (a0 : Int) : Option Bool :=
 if (decide (a0 ≥ 4)) then (some (decide (a0 ≤ 8)))
 else (some false)

def r_ast_pair (r : Bool) : List XV := [xB r]

def o_ast_pair (r : Bool) : Store := []

noncomputable def R_ast_pair (r : Bool) : Tg := .r false Tryz.f82.results.toList 0 (r_ast_pair r) (o_ast_pair r)

noncomputable def ast_sum (a0 : Int) : Option Bool :=
 if (a0 == 4) then (some true)
 else (some (a0 == 5))

def r_ast_sum (r : Bool) : List XV := [xB r]

def o_ast_sum (r : Bool) : Store := []

noncomputable def R_ast_sum (r : Bool) : Tg := .r false Tryz.f83.results.toList 0 (r_ast_sum r) (o_ast_sum r)

noncomputable def ast_writer_leaf (a0 : ast_writer) (a1 : ast_Expr) : Option ast_writer :=
 ast_writer_must a0 ((a1.Kids.length : Int) == 0) >>= fun v1 =>
 if (a1.Kind == 1) then (ast_writer_number v1 a1.Num >>= fun v2 =>
 some v2)
 else (ast_writer_must v1 (a1.Kind == 2) >>= fun v3 =>
 ast_writer_name v3 a1.Name >>= fun v4 =>
 some v4)

def r_ast_writer_leaf (r : ast_writer) : List XV := []

def o_ast_writer_leaf (r : ast_writer) : Store := [oB 57 [.row 1, .pv (.bool r.f_form), .pv (.bool r.f_deep), .pv (.int .i64 r.f_blocks), .pv (.int .i64 r.f_parens)], oR true 9 1 (List.map e_str r.f_out)]

noncomputable def R_ast_writer_leaf (r : ast_writer) : Tg := .r false Tryz.f84.results.toList 2 (r_ast_writer_leaf r) (o_ast_writer_leaf r)

def r_ast_writer_expr (r : ast_writer) : List XV := []

def o_ast_writer_expr (r : ast_writer) : Store := [oB 57 [.row 1, .pv (.bool r.f_form), .pv (.bool r.f_deep), .pv (.int .i64 r.f_blocks), .pv (.int .i64 r.f_parens)], oR true 9 1 (List.map e_str r.f_out)]

noncomputable def R_ast_writer_expr (r : ast_writer) : Tg := .r false Tryz.f64.results.toList 2 (r_ast_writer_expr r) (o_ast_writer_expr r)

def r_ast_writer_deeper_ast_writer_expr_1 (r : ast_writer) : List XV := []

def o_ast_writer_deeper_ast_writer_expr_1 (a1011 : ast_Expr) (r : ast_writer) : Store := [oB 57 [.row 1, .pv (.bool r.f_form), .pv (.bool r.f_deep), .pv (.int .i64 r.f_blocks), .pv (.int .i64 r.f_parens)], oR true 9 1 (List.map e_str r.f_out), oB 55 [.box 0 0], oB 98 (bs (f_ast_Expr a1011))]

noncomputable def R_ast_writer_deeper_ast_writer_expr_1 (a1011 : ast_Expr) (r : ast_writer) : Tg := .r false Tryz.f79.results.toList 4 (r_ast_writer_deeper_ast_writer_expr_1 r) (o_ast_writer_deeper_ast_writer_expr_1 a1011 r)

def r_ast_writer_kid (r : ast_writer) : List XV := []

def o_ast_writer_kid (r : ast_writer) : Store := [oB 57 [.row 1, .pv (.bool r.f_form), .pv (.bool r.f_deep), .pv (.int .i64 r.f_blocks), .pv (.int .i64 r.f_parens)], oR true 9 1 (List.map e_str r.f_out)]

noncomputable def R_ast_writer_kid (r : ast_writer) : Tg := .r false Tryz.f81.results.toList 2 (r_ast_writer_kid r) (o_ast_writer_kid r)

def r_ast_writer_expr_1 (r : ast_writer) : List XV := []

def o_ast_writer_expr_1 (a1 : ast_Expr) (r : ast_writer) : Store := [oB 55 [.box 1 0], oB 57 [.row 2, .pv (.bool r.f_form), .pv (.bool r.f_deep), .pv (.int .i64 r.f_blocks), .pv (.int .i64 r.f_parens)], oR true 9 1 (List.map e_str r.f_out), oB 98 (bs (f_ast_Expr a1))]

noncomputable def R_ast_writer_expr_1 (a1 : ast_Expr) (r : ast_writer) : Tg := .r false Tryz.f80.results.toList 4 (r_ast_writer_expr_1 r) (o_ast_writer_expr_1 a1 r)

def r_ast_writer_deeper_ast_writer_kid_1 (r : ast_writer) : List XV := []

def o_ast_writer_deeper_ast_writer_kid_1 (a1011 : ast_Expr) (r : ast_writer) : Store := [oB 57 [.row 1, .pv (.bool r.f_form), .pv (.bool r.f_deep), .pv (.int .i64 r.f_blocks), .pv (.int .i64 r.f_parens)], oR true 9 1 (List.map e_str r.f_out), oB 55 [.box 0 0], oB 98 (bs (f_ast_Expr a1011))]

noncomputable def R_ast_writer_deeper_ast_writer_kid_1 (a1011 : ast_Expr) (r : ast_writer) : Tg := .r false Tryz.f79.results.toList 4 (r_ast_writer_deeper_ast_writer_kid_1 r) (o_ast_writer_deeper_ast_writer_kid_1 a1011 r)

def r_ast_writer_kid_1 (r : ast_writer) : List XV := []

def o_ast_writer_kid_1 (a1 : ast_Expr) (r : ast_writer) : Store := [oB 55 [.box 1 0], oB 57 [.row 2, .pv (.bool r.f_form), .pv (.bool r.f_deep), .pv (.int .i64 r.f_blocks), .pv (.int .i64 r.f_parens)], oR true 9 1 (List.map e_str r.f_out), oB 98 (bs (f_ast_Expr a1))]

noncomputable def R_ast_writer_kid_1 (a1 : ast_Expr) (r : ast_writer) : Tg := .r false Tryz.f94.results.toList 4 (r_ast_writer_kid_1 r) (o_ast_writer_kid_1 a1 r)

mutual
noncomputable def ast_writer_exprN : Nat → ast_writer → ast_Expr → Option ast_writer
  | 0, _, _ => none
  | n + 1, a0, a1 => ((if (a1.Kind == 3) then (some ((a1.Kids.length : Int) == 1))
 else (some false) : Option Bool) >>= fun j1 =>
 if j1 then (ast_writer_put a0 [(ByteArray.mk #[45])] >>= fun v1 =>
 (ast_writer_deeper_ast_writer_expr_1N n) v1 a1 >>= fun v2 =>
 some v2)
 else (((ast_pair a1.Kind >>= fun v3 =>
 if v3 then (some ((a1.Kids.length : Int) == 2))
 else (some false) : Option Bool) >>= fun j2 =>
 if j2 then (idx a1.Kids 0 >>= fun v4 =>
 idx a1.Kids 1 >>= fun v5 =>
 ((ast_sum a1.Kind >>= fun v6 =>
 if (!v6) then (ast_sum v4.Kind >>= fun v7 =>
 (ast_writer_kidN n) a0 v4 v7 >>= fun v8 =>
 some (v8.f_form, v8.f_deep, v8.f_blocks, v8.f_parens, v8.f_out))
 else ((ast_writer_kidN n) a0 v4 false >>= fun v9 =>
 some (v9.f_form, v9.f_deep, v9.f_blocks, v9.f_parens, v9.f_out)) : Option (Bool × Bool × Int × Int × (List ByteArray))) >>= fun j3 =>
 idx [(ByteArray.mk #[43]), (ByteArray.mk #[45]), (ByteArray.mk #[42]), (ByteArray.mk #[47]), (ByteArray.mk #[37])] (IntKind.i64.wrap (a1.Kind - 4)) >>= fun v10 =>
 ast_writer_put (ast_writer.mk j3.2.2.2.2 j3.1 j3.2.1 j3.2.2.1 j3.2.2.2.1) [v10] >>= fun v11 =>
 ast_sum v5.Kind >>= fun v12 =>
 if v12 then ((ast_writer_kidN n) v11 v5 true >>= fun v13 =>
 some v13)
 else (ast_sum a1.Kind >>= fun v14 =>
 if (!v14) then (ast_pair v5.Kind >>= fun v15 =>
 (ast_writer_kidN n) v11 v5 v15 >>= fun v16 =>
 some v16)
 else ((ast_writer_kidN n) v11 v5 false >>= fun v17 =>
 some v17))))
 else (ast_writer_leaf a0 a1 >>= fun v18 =>
 some v18))))
noncomputable def ast_writer_deeper_ast_writer_expr_1N : Nat → ast_writer → ast_Expr → Option ast_writer
  | 0, _, _ => none
  | n + 1, a0, a1011 => ((if a0.f_deep then (some true)
 else (some (decide ((IntKind.i64.wrap (a0.f_parens + 1)) > 24))) : Option Bool) >>= fun j1 =>
 (ast_writer_expr_1N n) (ast_writer.mk a0.f_out a0.f_form j1 a0.f_blocks (IntKind.i64.wrap (a0.f_parens + 1))) a1011 >>= fun v1 =>
 some (ast_writer.mk v1.f_out v1.f_form v1.f_deep v1.f_blocks (IntKind.i64.wrap (v1.f_parens - 1))))
noncomputable def ast_writer_kidN : Nat → ast_writer → ast_Expr → Bool → Option ast_writer
  | 0, _, _, _ => none
  | n + 1, a0, a1, a2 => if (!a2) then ((ast_writer_exprN n) a0 a1 >>= fun v1 =>
 some v1)
 else (ast_writer_put a0 [(ByteArray.mk #[40])] >>= fun v2 =>
 (ast_writer_deeper_ast_writer_kid_1N n) v2 a1 >>= fun v3 =>
 ast_writer_put v3 [(ByteArray.mk #[41])] >>= fun v4 =>
 some v4)
noncomputable def ast_writer_expr_1N : Nat → ast_writer → ast_Expr → Option ast_writer
  | 0, _, _ => none
  | n + 1, a0, a1 => idx a1.Kids 0 >>= fun v1 =>
 ast_pair v1.Kind >>= fun v2 =>
 (ast_writer_kidN n) a0 v1 v2 >>= fun v3 =>
 some v3
noncomputable def ast_writer_deeper_ast_writer_kid_1N : Nat → ast_writer → ast_Expr → Option ast_writer
  | 0, _, _ => none
  | n + 1, a0, a1011 => ((if a0.f_deep then (some true)
 else (some (decide ((IntKind.i64.wrap (a0.f_parens + 1)) > 24))) : Option Bool) >>= fun j1 =>
 (ast_writer_kid_1N n) (ast_writer.mk a0.f_out a0.f_form j1 a0.f_blocks (IntKind.i64.wrap (a0.f_parens + 1))) a1011 >>= fun v1 =>
 some (ast_writer.mk v1.f_out v1.f_form v1.f_deep v1.f_blocks (IntKind.i64.wrap (v1.f_parens - 1))))
noncomputable def ast_writer_kid_1N : Nat → ast_writer → ast_Expr → Option ast_writer
  | 0, _, _ => none
  | n + 1, a0, a1 => (ast_writer_exprN n) a0 a1 >>= fun v1 =>
 some v1
end

noncomputable def ast_writer_expr (a0 : ast_writer) (a1 : ast_Expr) : Option ast_writer := unf fun n => ast_writer_exprN n a0 a1

noncomputable def ast_writer_deeper_ast_writer_expr_1 (a0 : ast_writer) (a1011 : ast_Expr) : Option ast_writer := unf fun n => ast_writer_deeper_ast_writer_expr_1N n a0 a1011

noncomputable def ast_writer_kid (a0 : ast_writer) (a1 : ast_Expr) (a2 : Bool) : Option ast_writer := unf fun n => ast_writer_kidN n a0 a1 a2

noncomputable def ast_writer_expr_1 (a0 : ast_writer) (a1 : ast_Expr) : Option ast_writer := unf fun n => ast_writer_expr_1N n a0 a1

noncomputable def ast_writer_deeper_ast_writer_kid_1 (a0 : ast_writer) (a1011 : ast_Expr) : Option ast_writer := unf fun n => ast_writer_deeper_ast_writer_kid_1N n a0 a1011

noncomputable def ast_writer_kid_1 (a0 : ast_writer) (a1 : ast_Expr) : Option ast_writer := unf fun n => ast_writer_kid_1N n a0 a1

noncomputable def ast_writer_cond (a0 : ast_writer) (a1 : ast_Cond) : Option ast_writer :=
 ast_writer_put a0 [(ByteArray.mk #[40])] >>= fun v1 =>
 ast_writer_expr v1 a1.L >>= fun v2 =>
 ((if (decide (a1.Op < 1)) then (some true)
 else (some (decide (a1.Op > 6))) : Option Bool) >>= fun j1 =>
 if j1 then (ast_writer_must v2 false >>= fun v3 =>
 ast_writer_expr v3 a1.R >>= fun v4 =>
 ast_writer_put v4 [(ByteArray.mk #[41])] >>= fun v5 =>
 some v5)
 else (idx [(ByteArray.mk #[61, 61]), (ByteArray.mk #[33, 61]), (ByteArray.mk #[60]), (ByteArray.mk #[60, 61]), (ByteArray.mk #[62]), (ByteArray.mk #[62, 61])] (IntKind.i64.wrap (a1.Op - 1)) >>= fun v6 =>
 ast_writer_put v2 [v6] >>= fun v7 =>
 ast_writer_expr v7 a1.R >>= fun v8 =>
 ast_writer_put v8 [(ByteArray.mk #[41])] >>= fun v9 =>
 some v9))

def r_ast_writer_cond (r : ast_writer) : List XV := []

def o_ast_writer_cond (r : ast_writer) : Store := [oB 57 [.row 1, .pv (.bool r.f_form), .pv (.bool r.f_deep), .pv (.int .i64 r.f_blocks), .pv (.int .i64 r.f_parens)], oR true 9 1 (List.map e_str r.f_out)]

noncomputable def R_ast_writer_cond (r : ast_writer) : Tg := .r false Tryz.f65.results.toList 2 (r_ast_writer_cond r) (o_ast_writer_cond r)

noncomputable def ast_writer_stmts_l1 (F_ast_writer_stmts : ast_writer → (List ast_Stmt) → Option ast_writer) (F_ast_writer_stmt : ast_writer → ast_Stmt → Option ast_writer) (F_ast_writer_block : ast_writer → (List ast_Stmt) → Option ast_writer) (F_ast_writer_arms : ast_writer → (List ast_Arm) → Option ast_writer) (a1 : (List ast_Stmt)) (x1 : (Int × Bool × Bool × Int × Int × (List ByteArray))) : Option (Sum (Int × Bool × Bool × Int × Int × (List ByteArray)) (Sum ast_writer (Bool × Bool × Int × Int × (List ByteArray)))) :=
 if (decide (x1.1 < (a1.length : Int))) then (idx a1 x1.1 >>= fun v1 =>
 F_ast_writer_stmt (ast_writer.mk x1.2.2.2.2.2 x1.2.1 x1.2.2.1 x1.2.2.2.1 x1.2.2.2.2.1) v1 >>= fun v2 =>
 some (.inl ((IntKind.i64.wrap (x1.1 + 1)), v2.f_form, v2.f_deep, v2.f_blocks, v2.f_parens, v2.f_out)))
 else (some (.inr (.inr (x1.2.1, x1.2.2.1, x1.2.2.2.1, x1.2.2.2.2.1, x1.2.2.2.2.2))))

def r_ast_writer_stmts (r : ast_writer) : List XV := []

def o_ast_writer_stmts (r : ast_writer) : Store := [oB 57 [.row 1, .pv (.bool r.f_form), .pv (.bool r.f_deep), .pv (.int .i64 r.f_blocks), .pv (.int .i64 r.f_parens)], oR true 9 1 (List.map e_str r.f_out)]

noncomputable def R_ast_writer_stmts (r : ast_writer) : Tg := .r false Tryz.f35.results.toList 2 (r_ast_writer_stmts r) (o_ast_writer_stmts r)

def r_ast_writer_stmt (r : ast_writer) : List XV := []

def o_ast_writer_stmt (r : ast_writer) : Store := [oB 57 [.row 1, .pv (.bool r.f_form), .pv (.bool r.f_deep), .pv (.int .i64 r.f_blocks), .pv (.int .i64 r.f_parens)], oR true 9 1 (List.map e_str r.f_out)]

noncomputable def R_ast_writer_stmt (r : ast_writer) : Tg := .r false Tryz.f52.results.toList 2 (r_ast_writer_stmt r) (o_ast_writer_stmt r)

def r_ast_writer_block (r : ast_writer) : List XV := []

def o_ast_writer_block (r : ast_writer) : Store := [oB 57 [.row 1, .pv (.bool r.f_form), .pv (.bool r.f_deep), .pv (.int .i64 r.f_blocks), .pv (.int .i64 r.f_parens)], oR true 9 1 (List.map e_str r.f_out)]

noncomputable def R_ast_writer_block (r : ast_writer) : Tg := .r false Tryz.f66.results.toList 2 (r_ast_writer_block r) (o_ast_writer_block r)

noncomputable def ast_writer_arms_l1 (F_ast_writer_stmts : ast_writer → (List ast_Stmt) → Option ast_writer) (F_ast_writer_stmt : ast_writer → ast_Stmt → Option ast_writer) (F_ast_writer_block : ast_writer → (List ast_Stmt) → Option ast_writer) (F_ast_writer_arms : ast_writer → (List ast_Arm) → Option ast_writer) (a1 : (List ast_Arm)) (x1 : (Int × Bool × Bool × Int × Int × (List ByteArray))) : Option (Sum (Int × Bool × Bool × Int × Int × (List ByteArray)) (Sum ast_writer (Bool × Bool × Int × Int × (List ByteArray)))) :=
 if (decide (x1.1 < (a1.length : Int))) then (idx a1 x1.1 >>= fun v3 =>
 ast_writer_name (ast_writer.mk x1.2.2.2.2.2 x1.2.1 x1.2.2.1 x1.2.2.2.1 x1.2.2.2.2.1) v3.Tag >>= fun v4 =>
 ast_writer_put v4 [(ByteArray.mk #[40])] >>= fun v5 =>
 ast_writer_name v5 v3.Var >>= fun v6 =>
 ast_writer_put v6 [(ByteArray.mk #[41])] >>= fun v7 =>
 F_ast_writer_block v7 v3.Body >>= fun v8 =>
 some (.inl ((IntKind.i64.wrap (x1.1 + 1)), v8.f_form, v8.f_deep, v8.f_blocks, v8.f_parens, v8.f_out)))
 else (some (.inr (.inr (x1.2.1, x1.2.2.1, x1.2.2.2.1, x1.2.2.2.2.1, x1.2.2.2.2.2))))

def r_ast_writer_arms (r : ast_writer) : List XV := []

def o_ast_writer_arms (r : ast_writer) : Store := [oB 57 [.row 1, .pv (.bool r.f_form), .pv (.bool r.f_deep), .pv (.int .i64 r.f_blocks), .pv (.int .i64 r.f_parens)], oR true 9 1 (List.map e_str r.f_out)]

noncomputable def R_ast_writer_arms (r : ast_writer) : Tg := .r false Tryz.f67.results.toList 2 (r_ast_writer_arms r) (o_ast_writer_arms r)

mutual
noncomputable def ast_writer_stmtsN : Nat → ast_writer → (List ast_Stmt) → Option ast_writer
  | 0, _, _ => none
  | n + 1, a0, a1 => iter (ast_writer_stmts_l1 (ast_writer_stmtsN n) (ast_writer_stmtN n) (ast_writer_blockN n) (ast_writer_armsN n) a1) (0, a0.f_form, a0.f_deep, a0.f_blocks, a0.f_parens, a0.f_out) >>= Sum.elim (fun _ => none) (fun j1 =>
 some (ast_writer.mk j1.2.2.2.2 j1.1 j1.2.1 j1.2.2.1 j1.2.2.2.1))
noncomputable def ast_writer_stmtN : Nat → ast_writer → ast_Stmt → Option ast_writer
  | 0, _, _ => none
  | n + 1, a0, a1 => if (a1.Kind == 1) then (ast_writer_name a0 a1.Name >>= fun v1 =>
 ast_writer_put v1 [(ByteArray.mk #[61])] >>= fun v2 =>
 ast_writer_expr v2 a1.E >>= fun v3 =>
 ast_writer_put v3 [(ByteArray.mk #[59])] >>= fun v4 =>
 some v4)
 else (if (a1.Kind == 2) then (ast_writer_put a0 [(ByteArray.mk #[105, 102])] >>= fun v5 =>
 ast_writer_cond v5 a1.C >>= fun v6 =>
 (ast_writer_blockN n) v6 a1.Body >>= fun v7 =>
 if (decide ((a1.Else.length : Int) > 0)) then (ast_writer_put v7 [(ByteArray.mk #[101, 108, 115, 101])] >>= fun v8 =>
 (ast_writer_blockN n) v8 a1.Else >>= fun v9 =>
 some v9)
 else (some v7))
 else (if (a1.Kind == 3) then (ast_writer_put a0 [(ByteArray.mk #[119, 104, 105, 108, 101])] >>= fun v10 =>
 ast_writer_cond v10 a1.C >>= fun v11 =>
 (ast_writer_blockN n) v11 a1.Body >>= fun v12 =>
 some v12)
 else (if (a1.Kind == 4) then (ast_writer_put a0 [(ByteArray.mk #[115, 101, 110, 100])] >>= fun v13 =>
 ast_writer_name v13 a1.Name >>= fun v14 =>
 ast_writer_put v14 [(ByteArray.mk #[46])] >>= fun v15 =>
 ast_writer_name v15 a1.Tag >>= fun v16 =>
 ast_writer_put v16 [(ByteArray.mk #[40])] >>= fun v17 =>
 ast_writer_expr v17 a1.E >>= fun v18 =>
 ast_writer_put v18 [(ByteArray.mk #[41]), (ByteArray.mk #[59])] >>= fun v19 =>
 some v19)
 else (if (a1.Kind == 5) then (ast_writer_put a0 [(ByteArray.mk #[114, 101, 99, 118])] >>= fun v20 =>
 ast_writer_name v20 a1.Name >>= fun v21 =>
 (ast_writer_armsN n) v21 a1.Arms >>= fun v22 =>
 some v22)
 else (if (a1.Kind == 6) then (ast_writer_put a0 [(ByteArray.mk #[97, 115, 115, 101, 114, 116])] >>= fun v23 =>
 ast_writer_cond v23 a1.C >>= fun v24 =>
 ast_writer_put v24 [(ByteArray.mk #[59])] >>= fun v25 =>
 some v25)
 else (if (a1.Kind == 7) then (ast_writer_put a0 [(ByteArray.mk #[105, 110, 112, 117, 116])] >>= fun v26 =>
 ast_writer_name v26 a1.Name >>= fun v27 =>
 ast_writer_put v27 [(ByteArray.mk #[59])] >>= fun v28 =>
 some v28)
 else (ast_writer_must a0 false >>= fun v29 =>
 some v29)))))))
noncomputable def ast_writer_blockN : Nat → ast_writer → (List ast_Stmt) → Option ast_writer
  | 0, _, _ => none
  | n + 1, a0, a1 => ast_writer_put a0 [(ByteArray.mk #[123])] >>= fun v1 =>
 ((if v1.f_deep then (some true)
 else (some (decide ((IntKind.i64.wrap (v1.f_blocks + 1)) > 24))) : Option Bool) >>= fun j1 =>
 (ast_writer_stmtsN n) (ast_writer.mk v1.f_out v1.f_form j1 (IntKind.i64.wrap (v1.f_blocks + 1)) v1.f_parens) a1 >>= fun v2 =>
 ast_writer_put (ast_writer.mk v2.f_out v2.f_form v2.f_deep (IntKind.i64.wrap (v2.f_blocks - 1)) v2.f_parens) [(ByteArray.mk #[125])] >>= fun v3 =>
 some v3)
noncomputable def ast_writer_armsN : Nat → ast_writer → (List ast_Arm) → Option ast_writer
  | 0, _, _ => none
  | n + 1, a0, a1 => ast_writer_must a0 (decide ((a1.length : Int) > 0)) >>= fun v1 =>
 ast_writer_put v1 [(ByteArray.mk #[123])] >>= fun v2 =>
 iter (ast_writer_arms_l1 (ast_writer_stmtsN n) (ast_writer_stmtN n) (ast_writer_blockN n) (ast_writer_armsN n) a1) (0, v2.f_form, v2.f_deep, v2.f_blocks, v2.f_parens, v2.f_out) >>= Sum.elim (fun _ => none) (fun j1 =>
 ast_writer_put (ast_writer.mk j1.2.2.2.2 j1.1 j1.2.1 j1.2.2.1 j1.2.2.2.1) [(ByteArray.mk #[125])] >>= fun v9 =>
 some v9)
end

noncomputable def ast_writer_stmts (a0 : ast_writer) (a1 : (List ast_Stmt)) : Option ast_writer := unf fun n => ast_writer_stmtsN n a0 a1

noncomputable def ast_writer_stmt (a0 : ast_writer) (a1 : ast_Stmt) : Option ast_writer := unf fun n => ast_writer_stmtN n a0 a1

noncomputable def ast_writer_block (a0 : ast_writer) (a1 : (List ast_Stmt)) : Option ast_writer := unf fun n => ast_writer_blockN n a0 a1

noncomputable def ast_writer_arms (a0 : ast_writer) (a1 : (List ast_Arm)) : Option ast_writer := unf fun n => ast_writer_armsN n a0 a1

noncomputable def ast_writer_proc_l1 (a1 : ast_Proc) (x1 : (Int × Bool × Bool × Int × Int × (List ByteArray))) : Option (Sum (Int × Bool × Bool × Int × Int × (List ByteArray)) (Sum ast_writer (Bool × Bool × Int × Int × (List ByteArray)))) :=
 if (decide (x1.1 < (a1.Vars.length : Int))) then (idx a1.Vars x1.1 >>= fun v4 =>
 ast_writer_put (ast_writer.mk x1.2.2.2.2.2 x1.2.1 x1.2.2.1 x1.2.2.2.1 x1.2.2.2.2.1) [(ByteArray.mk #[118, 97, 114])] >>= fun v5 =>
 ast_writer_name v5 v4 >>= fun v6 =>
 ast_writer_put v6 [(ByteArray.mk #[59])] >>= fun v7 =>
 some (.inl ((IntKind.i64.wrap (x1.1 + 1)), v7.f_form, v7.f_deep, v7.f_blocks, v7.f_parens, v7.f_out)))
 else (some (.inr (.inr (x1.2.1, x1.2.2.1, x1.2.2.2.1, x1.2.2.2.2.1, x1.2.2.2.2.2))))

noncomputable def ast_writer_proc (a0 : ast_writer) (a1 : ast_Proc) : Option ast_writer :=
 ast_writer_put a0 [(ByteArray.mk #[112, 114, 111, 99])] >>= fun v1 =>
 ast_writer_name v1 a1.Name >>= fun v2 =>
 ast_writer_put v2 [(ByteArray.mk #[123])] >>= fun v3 =>
 iter (ast_writer_proc_l1 a1) (0, v3.f_form, v3.f_deep, v3.f_blocks, v3.f_parens, v3.f_out) >>= Sum.elim (fun _ => none) (fun j1 =>
 ast_writer_stmts (ast_writer.mk j1.2.2.2.2 j1.1 j1.2.1 j1.2.2.1 j1.2.2.2.1) a1.Body >>= fun v8 =>
 ast_writer_put v8 [(ByteArray.mk #[125])] >>= fun v9 =>
 some v9)

def r_ast_writer_proc (r : ast_writer) : List XV := []

def o_ast_writer_proc (r : ast_writer) : Store := [oB 57 [.row 1, .pv (.bool r.f_form), .pv (.bool r.f_deep), .pv (.int .i64 r.f_blocks), .pv (.int .i64 r.f_parens)], oR true 9 1 (List.map e_str r.f_out)]

noncomputable def R_ast_writer_proc (r : ast_writer) : Tg := .r false Tryz.f13.results.toList 2 (r_ast_writer_proc r) (o_ast_writer_proc r)

noncomputable def ast_Words_l1 (a0 : ast_System) (x1 : (Int × Bool × Bool × Int × Int × (List ByteArray))) : Option (Sum (Int × Bool × Bool × Int × Int × (List ByteArray)) (Sum ((List ByteArray) × Int) (Bool × Bool × Int × Int × (List ByteArray)))) :=
 if (decide (x1.1 < (a0.Chans.length : Int))) then (idx a0.Chans x1.1 >>= fun v1 =>
 ast_writer_channel (ast_writer.mk x1.2.2.2.2.2 x1.2.1 x1.2.2.1 x1.2.2.2.1 x1.2.2.2.2.1) v1 >>= fun v2 =>
 some (.inl ((IntKind.i64.wrap (x1.1 + 1)), v2.f_form, v2.f_deep, v2.f_blocks, v2.f_parens, v2.f_out)))
 else (some (.inr (.inr (x1.2.1, x1.2.2.1, x1.2.2.2.1, x1.2.2.2.2.1, x1.2.2.2.2.2))))

noncomputable def ast_Words_l2 (a0 : ast_System) (x2 : (Int × Bool × Bool × Int × Int × (List ByteArray))) : Option (Sum (Int × Bool × Bool × Int × Int × (List ByteArray)) (Sum ((List ByteArray) × Int) (Bool × Bool × Int × Int × (List ByteArray)))) :=
 if (decide (x2.1 < (a0.Rules.length : Int))) then (idx a0.Rules x2.1 >>= fun v3 =>
 ast_writer_rule (ast_writer.mk x2.2.2.2.2.2 x2.2.1 x2.2.2.1 x2.2.2.2.1 x2.2.2.2.2.1) v3 >>= fun v4 =>
 some (.inl ((IntKind.i64.wrap (x2.1 + 1)), v4.f_form, v4.f_deep, v4.f_blocks, v4.f_parens, v4.f_out)))
 else (some (.inr (.inr (x2.2.1, x2.2.2.1, x2.2.2.2.1, x2.2.2.2.2.1, x2.2.2.2.2.2))))

noncomputable def ast_Words_l3 (a0 : ast_System) (x3 : (Int × Bool × Bool × Int × Int × (List ByteArray))) : Option (Sum (Int × Bool × Bool × Int × Int × (List ByteArray)) (Sum ((List ByteArray) × Int) (Bool × Bool × Int × Int × (List ByteArray)))) :=
 if (decide (x3.1 < (a0.Procs.length : Int))) then (idx a0.Procs x3.1 >>= fun v5 =>
 ast_writer_proc (ast_writer.mk x3.2.2.2.2.2 x3.2.1 x3.2.2.1 x3.2.2.2.1 x3.2.2.2.2.1) v5 >>= fun v6 =>
 some (.inl ((IntKind.i64.wrap (x3.1 + 1)), v6.f_form, v6.f_deep, v6.f_blocks, v6.f_parens, v6.f_out)))
 else (some (.inr (.inr (x3.2.1, x3.2.2.1, x3.2.2.2.1, x3.2.2.2.2.1, x3.2.2.2.2.2))))

noncomputable def ast_Words (a0 : ast_System) : Option ((List ByteArray) × Int) :=
 iter (ast_Words_l1 a0) (0, false, false, 0, 0, []) >>= Sum.elim (fun _ => none) (fun j1 =>
 iter (ast_Words_l2 a0) (0, j1.1, j1.2.1, j1.2.2.1, j1.2.2.2.1, j1.2.2.2.2) >>= Sum.elim (fun _ => none) (fun j2 =>
 iter (ast_Words_l3 a0) (0, j2.1, j2.2.1, j2.2.2.1, j2.2.2.2.1, j2.2.2.2.2) >>= Sum.elim (fun _ => none) (fun j3 =>
 if j3.1 then (some ([], 5))
 else (if j3.2.1 then (some ([], 6))
 else (if (decide ((j3.2.2.2.2.length : Int) > 2000)) then (some ([], 4))
 else (some (j3.2.2.2.2, 0)))))))

def r_ast_Words (r : ((List ByteArray) × Int)) : List XV := [xL (List.map e_str r.1), xI r.2]

def o_ast_Words (r : ((List ByteArray) × Int)) : Store := []

noncomputable def R_ast_Words (r : ((List ByteArray) × Int)) : Tg := .r false Tryz.f5.results.toList 0 (r_ast_Words r) (o_ast_Words r)

noncomputable def r01_letter (a0 : Int) : Option Bool :=
 if (decide (a0 ≥ 97)) then (some (decide (a0 ≤ 122)))
 else (some false)

def r_r01_letter (r : Bool) : List XV := [xB r]

def o_r01_letter (r : Bool) : Store := []

noncomputable def R_r01_letter (r : Bool) : Tg := .r false Tryz.f68.results.toList 0 (r_r01_letter r) (o_r01_letter r)

noncomputable def r01_digit (a0 : Int) : Option Bool :=
 if (decide (a0 ≥ 48)) then (some (decide (a0 ≤ 57)))
 else (some false)

def r_r01_digit (r : Bool) : List XV := [xB r]

def o_r01_digit (r : Bool) : Store := []

noncomputable def R_r01_digit (r : Bool) : Tg := .r false Tryz.f69.results.toList 0 (r_r01_digit r) (o_r01_digit r)

noncomputable def r01_words : Option (List ByteArray) :=
 some [(ByteArray.mk #[99, 104, 97, 110]), (ByteArray.mk #[98, 108, 111, 99, 107]), (ByteArray.mk #[100, 114, 111, 112]), (ByteArray.mk #[108, 111, 115, 115, 121]), (ByteArray.mk #[102, 114, 111, 109]), (ByteArray.mk #[116, 111]), (ByteArray.mk #[114, 117, 108, 101]), (ByteArray.mk #[112, 114, 111, 99]), (ByteArray.mk #[118, 97, 114]), (ByteArray.mk #[105, 102]), (ByteArray.mk #[101, 108, 115, 101]), (ByteArray.mk #[119, 104, 105, 108, 101]), (ByteArray.mk #[115, 101, 110, 100]), (ByteArray.mk #[114, 101, 99, 118]), (ByteArray.mk #[97, 115, 115, 101, 114, 116]), (ByteArray.mk #[105, 110, 112, 117, 116])]

def r_r01_words (r : (List ByteArray)) : List XV := [xL (List.map e_str r)]

def o_r01_words (r : (List ByteArray)) : Store := []

noncomputable def R_r01_words (r : (List ByteArray)) : Tg := .r false Tryz.f85.results.toList 0 (r_r01_words r) (o_r01_words r)

noncomputable def r01_Reserved_l1 (a0 : ByteArray) (v1 : (List ByteArray)) (x1 : Int) : Option (Sum Int (Sum Bool Unit)) :=
 if (decide (x1 < (v1.length : Int))) then (idx v1 x1 >>= fun v2 =>
 if (v2.toList == a0.toList) then (some (.inr (.inl true)))
 else (some (.inl (IntKind.i64.wrap (x1 + 1)))))
 else (some (.inr (.inr ())))

noncomputable def r01_Reserved (a0 : ByteArray) : Option Bool :=
 r01_words >>= fun v1 =>
 iter (r01_Reserved_l1 a0 v1) 0 >>= Sum.elim (fun r => some r) (fun j1 =>
 some false)

def r_r01_Reserved (r : Bool) : List XV := [xB r]

def o_r01_Reserved (r : Bool) : Store := []

noncomputable def R_r01_Reserved (r : Bool) : Tg := .r false Tryz.f70.results.toList 0 (r_r01_Reserved r) (o_r01_Reserved r)

noncomputable def r01_sign_l1 (a0 : ByteArray) (a1 : Int) (x1 : Int) : Option (Sum Int (Sum Int Unit)) :=
 if (decide (x1 < 4)) then (((if (decide ((IntKind.i64.wrap (a1 + 2)) ≤ (a0.size : Int))) then (ssub a0 a1 (IntKind.i64.wrap (a1 + 2)) >>= fun v1 =>
 idx [(ByteArray.mk #[61, 61]), (ByteArray.mk #[33, 61]), (ByteArray.mk #[60, 61]), (ByteArray.mk #[62, 61])] x1 >>= fun v2 =>
 some (v1.toList == v2.toList))
 else (some false) : Option Bool) >>= fun j2 =>
 if j2 then (some (.inr (.inl 2)))
 else (some (.inl (IntKind.i64.wrap (x1 + 1))))))
 else (some (.inr (.inr ())))

noncomputable def r01_sign_l3 (a0 : ByteArray) (a1 : Int) (x3 : Int) : Option (Sum Int (Sum Int Unit)) :=
 if (decide (x3 < ((ByteArray.mk #[123, 125, 40, 41, 59, 44, 46, 61, 60, 62, 43, 45, 42, 47, 37]).size : Int))) then (bidx (ByteArray.mk #[123, 125, 40, 41, 59, 44, 46, 61, 60, 62, 43, 45, 42, 47, 37]) x3 >>= fun v3 =>
 bidx a0 a1 >>= fun v4 =>
 if (v3 == v4) then (some (.inr (.inl 1)))
 else (some (.inl (IntKind.i64.wrap (x3 + 1)))))
 else (some (.inr (.inr ())))

noncomputable def r01_sign (a0 : ByteArray) (a1 : Int) : Option Int :=
 iter (r01_sign_l1 a0 a1) 0 >>= Sum.elim (fun r => some r) (fun j1 =>
 iter (r01_sign_l3 a0 a1) 0 >>= Sum.elim (fun r => some r) (fun j3 =>
 some 0))

def r_r01_sign (r : Int) : List XV := [xI r]

def o_r01_sign (r : Int) : Store := []

noncomputable def R_r01_sign (r : Int) : Tg := .r false Tryz.f71.results.toList 0 (r_r01_sign r) (o_r01_sign r)

noncomputable def r01_Lex_l3 (a0 : ByteArray) (v1 : Int) (x3 : Int) : Option (Sum Int (Sum ((List r01_Token) × Int × Int) Int)) :=
 ((if (decide (x3 < (a0.size : Int))) then (r01_letter v1 >>= fun v2 =>
 if v2 then (bidx a0 x3 >>= fun v3 =>
 r01_letter v3 >>= fun v4 =>
 if v4 then (some true)
 else (bidx a0 x3 >>= fun v5 =>
 r01_digit v5 >>= fun v6 =>
 some v6))
 else (r01_digit v1 >>= fun v7 =>
 if v7 then (bidx a0 x3 >>= fun v8 =>
 r01_letter v8 >>= fun v9 =>
 if v9 then (some true)
 else (bidx a0 x3 >>= fun v10 =>
 r01_digit v10 >>= fun v11 =>
 some v11))
 else (some false)))
 else (some false) : Option Bool) >>= fun j4 =>
 if j4 then (some (.inl (IntKind.i64.wrap (x3 + 1))))
 else (some (.inr (.inr x3))))

noncomputable def r01_Lex_l7 (v16 : ByteArray) (x1 : (Int × (List r01_Token))) (x7 : (Int × Int)) : Option (Sum (Int × Int) (Sum ((List r01_Token) × Int × Int) Int)) :=
 if (decide (x7.1 < (v16.size : Int))) then (bidx v16 x7.1 >>= fun v17 =>
 r01_digit v17 >>= fun v18 =>
 if (!v18) then (some (.inr (.inl ([], x1.1, 3))))
 else (bidx v16 x7.1 >>= fun v19 =>
 some (.inl ((IntKind.i64.wrap (x7.1 + 1)), (IntKind.i64.wrap ((IntKind.i64.wrap (10 * x7.2)) + (IntKind.i64.wrap (IntKind.u8.wrap (v19 - 48)))))))))
 else (some (.inr (.inr x7.2)))

noncomputable def r01_Lex_l1 (a0 : ByteArray) (x1 : (Int × (List r01_Token))) : Option (Sum (Int × (List r01_Token)) (Sum ((List r01_Token) × Int × Int) (List r01_Token))) :=
 if (decide (x1.1 < (a0.size : Int))) then (bidx a0 x1.1 >>= fun v1 =>
 ((if (v1 == 32) then (some true)
 else (some (v1 == 10)) : Option Bool) >>= fun j2 =>
 if j2 then (some (.inl ((IntKind.i64.wrap (x1.1 + 1)), x1.2)))
 else (iter (r01_Lex_l3 a0 v1) x1.1 >>= Sum.elim (fun _ => none) (fun j3 =>
 ((r01_letter v1 >>= fun v12 =>
 if v12 then (ssub a0 x1.1 j3 >>= fun v13 =>
 r01_Reserved v13 >>= fun v14 =>
 if v14 then (if (decide ((v13.size : Int) > 12)) then (some (.inl ([], x1.1, 3)))
 else (some (.inr (j3, 4, v13, 0))))
 else (if (decide ((v13.size : Int) > 12)) then (some (.inl ([], x1.1, 3)))
 else (some (.inr (j3, 1, v13, 0)))))
 else (r01_digit v1 >>= fun v15 =>
 if v15 then (ssub a0 x1.1 j3 >>= fun v16 =>
 ((if (decide ((v16.size : Int) > 10)) then (some true)
 else (if (decide ((v16.size : Int) > 1)) then (some (v1 == 48))
 else (some false)) : Option Bool) >>= fun j6 =>
 if j6 then (some (.inl ([], x1.1, 3)))
 else (iter (r01_Lex_l7 v16 x1) (0, 0) >>= Sum.elim (fun r => some (.inl r)) (fun j7 =>
 if (decide (j7 > 2147483647)) then (some (.inl ([], x1.1, 3)))
 else (some (.inr (j3, 2, v16, j7)))))))
 else (r01_sign a0 x1.1 >>= fun v20 =>
 if (v20 == 0) then (some (.inl ([], x1.1, 2)))
 else (ssub a0 x1.1 (IntKind.i64.wrap (x1.1 + v20)) >>= fun v21 =>
 some (.inr ((IntKind.i64.wrap (x1.1 + v20)), 3, v21, 0))))) : Option (Sum ((List r01_Token) × Int × Int) (Int × Int × ByteArray × Int))) >>= Sum.elim (fun r => some (.inr (.inl r))) (fun j5 =>
 app 40 x1.2 [(r01_Token.mk j5.2.1 j5.2.2.1 j5.2.2.2 x1.1)] >>= fun v22 =>
 some (.inl (j5.1, v22))))))))
 else (some (.inr (.inr x1.2)))

noncomputable def r01_Lex (a0 : ByteArray) : Option ((List r01_Token) × Int × Int) :=
 iter (r01_Lex_l1 a0) (0, []) >>= Sum.elim (fun r => some r) (fun j1 =>
 if (decide ((j1.length : Int) > 2000)) then (some ([], (a0.size : Int), 4))
 else (some (j1, 0, 0)))

def r_r01_Lex (r : ((List r01_Token) × Int × Int)) : List XV := [xL (List.map e_r01_Token r.1), xI r.2.1, xI r.2.2]

def o_r01_Lex (r : ((List r01_Token) × Int × Int)) : Store := []

noncomputable def R_r01_Lex (r : ((List r01_Token) × Int × Int)) : Tg := .r false Tryz.f53.results.toList 0 (r_r01_Lex r) (o_r01_Lex r)

noncomputable def r02_name (a0 : ByteArray) : Option Bool :=
 r01_Lex a0 >>= fun v1 =>
 if (v1.2.2 == 0) then (if ((v1.1.length : Int) == 1) then (idx v1.1 0 >>= fun v2 =>
 if (v2.Kind == 1) then (idx v1.1 0 >>= fun v3 =>
 some (v3.Text.toList == a0.toList))
 else (some false))
 else (some false))
 else (some false)

def r_r02_name (r : Bool) : List XV := [xB r]

def o_r02_name (r : Bool) : Store := []

noncomputable def R_r02_name (r : Bool) : Tg := .r false Tryz.f38.results.toList 0 (r_r02_name r) (o_r02_name r)

noncomputable def r02_number (a0 : Int) : Option Bool :=
 if (decide (a0 ≥ 0)) then (some (decide (a0 ≤ 2147483647)))
 else (some false)

def r_r02_number (r : Bool) : List XV := [xB r]

def o_r02_number (r : Bool) : Store := []

noncomputable def R_r02_number (r : Bool) : Tg := .r false Tryz.f39.results.toList 0 (r_r02_number r) (o_r02_number r)

noncomputable def r02_two (a0 : Int) : Option Bool :=
 if (decide (a0 ≥ 4)) then (some (decide (a0 ≤ 8)))
 else (some false)

def r_r02_two (r : Bool) : List XV := [xB r]

def o_r02_two (r : Bool) : Store := []

noncomputable def R_r02_two (r : Bool) : Tg := .r false Tryz.f56.results.toList 0 (r_r02_two r) (o_r02_two r)

def r_r02_expr (r : Bool) : List XV := [xB r]

def o_r02_expr (r : Bool) : Store := []

noncomputable def R_r02_expr (r : Bool) : Tg := .r false Tryz.f54.results.toList 0 (r_r02_expr r) (o_r02_expr r)

noncomputable def r02_exprN : Nat → r02_Expr → Option Bool
  | 0, _ => none
  | n + 1, a0 => if (a0.Kind == 1) then (((r02_number a0.Num >>= fun v1 =>
 if v1 then (some ((a0.Kids.length : Int) == 0))
 else (some false) : Option Bool) >>= fun j1 =>
 some j1))
 else (if (a0.Kind == 2) then (((r02_name a0.Name >>= fun v2 =>
 if v2 then (some ((a0.Kids.length : Int) == 0))
 else (some false) : Option Bool) >>= fun j2 =>
 some j2))
 else (if (a0.Kind == 3) then (((if ((a0.Kids.length : Int) == 1) then (idx a0.Kids 0 >>= fun v3 =>
 (r02_exprN n) v3 >>= fun v4 =>
 some v4)
 else (some false) : Option Bool) >>= fun j3 =>
 some j3))
 else (r02_two a0.Kind >>= fun v5 =>
 if v5 then (((if ((a0.Kids.length : Int) == 2) then (idx a0.Kids 0 >>= fun v6 =>
 (r02_exprN n) v6 >>= fun v7 =>
 if v7 then (idx a0.Kids 1 >>= fun v8 =>
 (r02_exprN n) v8 >>= fun v9 =>
 some v9)
 else (some false))
 else (some false) : Option Bool) >>= fun j4 =>
 some j4))
 else (some false))))

noncomputable def r02_expr (a0 : r02_Expr) : Option Bool := unf fun n => r02_exprN n a0

noncomputable def r02_cond (a0 : r02_Cond) : Option Bool :=
 if (decide (a0.Op ≥ 1)) then (if (decide (a0.Op ≤ 6)) then (r02_expr a0.L >>= fun v1 =>
 if v1 then (r02_expr a0.R >>= fun v2 =>
 some v2)
 else (some false))
 else (some false))
 else (some false)

def r_r02_cond (r : Bool) : List XV := [xB r]

def o_r02_cond (r : Bool) : Store := []

noncomputable def R_r02_cond (r : Bool) : Tg := .r false Tryz.f55.results.toList 0 (r_r02_cond r) (o_r02_cond r)

noncomputable def r02_stmts_l4 (F_r02_stmts : (List r02_Stmt) → Option Bool) (v1 : r02_Stmt) (x4 : (Bool × Int)) : Option (Sum (Bool × Int) (Sum Bool Bool)) :=
 if (decide (x4.2 < (v1.Arms.length : Int))) then (((if x4.1 then (idx v1.Arms x4.2 >>= fun v13 =>
 r02_name v13.Tag >>= fun v14 =>
 if v14 then (idx v1.Arms x4.2 >>= fun v15 =>
 r02_name v15.Var >>= fun v16 =>
 if v16 then (idx v1.Arms x4.2 >>= fun v17 =>
 F_r02_stmts v17.Body >>= fun v18 =>
 some v18)
 else (some false))
 else (some false))
 else (some false) : Option Bool) >>= fun j5 =>
 some (.inl (j5, (IntKind.i64.wrap (x4.2 + 1))))))
 else (some (.inr (.inr x4.1)))

noncomputable def r02_stmts_l1 (F_r02_stmts : (List r02_Stmt) → Option Bool) (a0 : (List r02_Stmt)) (x1 : Int) : Option (Sum Int (Sum Bool Unit)) :=
 if (decide (x1 < (a0.length : Int))) then (((idx a0 x1 >>= fun v1 =>
 if (v1.Kind == 1) then (r02_name v1.Name >>= fun v2 =>
 if v2 then (r02_expr v1.E >>= fun v3 =>
 if (!v3) then (some (.inl false))
 else (some (.inr ())))
 else (some (.inl false)))
 else (if (v1.Kind == 2) then (r02_cond v1.C >>= fun v4 =>
 if v4 then (F_r02_stmts v1.Body >>= fun v5 =>
 if v5 then (F_r02_stmts v1.Else >>= fun v6 =>
 if (!v6) then (some (.inl false))
 else (some (.inr ())))
 else (some (.inl false)))
 else (some (.inl false)))
 else (if (v1.Kind == 3) then (r02_cond v1.C >>= fun v7 =>
 if v7 then (F_r02_stmts v1.Body >>= fun v8 =>
 if (!v8) then (some (.inl false))
 else (some (.inr ())))
 else (some (.inl false)))
 else (if (v1.Kind == 4) then (r02_name v1.Name >>= fun v9 =>
 if v9 then (r02_name v1.Tag >>= fun v10 =>
 if v10 then (r02_expr v1.E >>= fun v11 =>
 if (!v11) then (some (.inl false))
 else (some (.inr ())))
 else (some (.inl false)))
 else (some (.inl false)))
 else (if (v1.Kind == 5) then (((r02_name v1.Name >>= fun v12 =>
 if v12 then (some (decide ((v1.Arms.length : Int) > 0)))
 else (some false) : Option Bool) >>= fun j3 =>
 iter (r02_stmts_l4 F_r02_stmts v1) (j3, 0) >>= Sum.elim (fun _ => none) (fun j4 =>
 if (!j4) then (some (.inl false))
 else (some (.inr ())))))
 else (if (v1.Kind == 6) then (r02_cond v1.C >>= fun v19 =>
 if (!v19) then (some (.inl false))
 else (some (.inr ())))
 else (if (v1.Kind == 7) then (r02_name v1.Name >>= fun v20 =>
 if (!v20) then (some (.inl false))
 else (some (.inr ())))
 else (some (.inl false)))))))) : Option (Sum Bool Unit)) >>= Sum.elim (fun r => some (.inr (.inl r))) (fun j2 =>
 some (.inl (IntKind.i64.wrap (x1 + 1))))))
 else (some (.inr (.inr ())))

def r_r02_stmts (r : Bool) : List XV := [xB r]

def o_r02_stmts (r : Bool) : Store := []

noncomputable def R_r02_stmts (r : Bool) : Tg := .r false Tryz.f40.results.toList 0 (r_r02_stmts r) (o_r02_stmts r)

noncomputable def r02_stmtsN : Nat → (List r02_Stmt) → Option Bool
  | 0, _ => none
  | n + 1, a0 => iter (r02_stmts_l1 (r02_stmtsN n) a0) 0 >>= Sum.elim (fun r => some r) (fun j1 =>
 some true)

noncomputable def r02_stmts (a0 : (List r02_Stmt)) : Option Bool := unf fun n => r02_stmtsN n a0

noncomputable def r02_Right_l3 (v1 : r02_Chan) (x3 : Int) : Option (Sum Int (Sum Bool Unit)) :=
 if (decide (x3 < (v1.Tags.length : Int))) then (idx v1.Tags x3 >>= fun v6 =>
 r02_name v6 >>= fun v7 =>
 if (!v7) then (some (.inr (.inl false)))
 else (some (.inl (IntKind.i64.wrap (x3 + 1)))))
 else (some (.inr (.inr ())))

noncomputable def r02_Right_l1 (a0 : r02_System) (x1 : Int) : Option (Sum Int (Sum Bool Unit)) :=
 if (decide (x1 < (a0.Chans.length : Int))) then (idx a0.Chans x1 >>= fun v1 =>
 ((r02_name v1.Name >>= fun v2 =>
 if (!v2) then (some true)
 else (r02_name v1.From >>= fun v3 =>
 if (!v3) then (some true)
 else (r02_name v1.To >>= fun v4 =>
 if (!v4) then (some true)
 else (if (decide (v1.Kind < 0)) then (some true)
 else (if (decide (v1.Kind > 2)) then (some true)
 else (r02_number v1.Size >>= fun v5 =>
 if (!v5) then (some true)
 else (some ((v1.Tags.length : Int) == 0))))))) : Option Bool) >>= fun j2 =>
 if j2 then (some (.inr (.inl false)))
 else (iter (r02_Right_l3 v1) 0 >>= Sum.elim (fun r => some (.inr (.inl r))) (fun j3 =>
 some (.inl (IntKind.i64.wrap (x1 + 1)))))))
 else (some (.inr (.inr ())))

noncomputable def r02_Right_l5 (a0 : r02_System) (x4 : Int) (x5 : Int) : Option (Sum Int (Sum Bool Unit)) :=
 idx a0.Rules x4 >>= fun v10 =>
 if (decide (x5 < (v10.Moves.length : Int))) then (idx a0.Rules x4 >>= fun v11 =>
 idx v11.Moves x5 >>= fun v12 =>
 ((r02_number v12.From >>= fun v13 =>
 if (!v13) then (some true)
 else (r02_number v12.To >>= fun v14 =>
 if (!v14) then (some true)
 else (r02_name v12.Tag >>= fun v15 =>
 some (!v15))) : Option Bool) >>= fun j6 =>
 if j6 then (some (.inr (.inl false)))
 else (some (.inl (IntKind.i64.wrap (x5 + 1))))))
 else (some (.inr (.inr ())))

noncomputable def r02_Right_l4 (a0 : r02_System) (x4 : Int) : Option (Sum Int (Sum Bool Unit)) :=
 if (decide (x4 < (a0.Rules.length : Int))) then (idx a0.Rules x4 >>= fun v8 =>
 r02_name v8.Chan >>= fun v9 =>
 if (!v9) then (some (.inr (.inl false)))
 else (iter (r02_Right_l5 a0 x4) 0 >>= Sum.elim (fun r => some (.inr (.inl r))) (fun j5 =>
 some (.inl (IntKind.i64.wrap (x4 + 1))))))
 else (some (.inr (.inr ())))

noncomputable def r02_Right_l9 (v16 : r02_Proc) (x9 : Int) : Option (Sum Int (Sum Bool Unit)) :=
 if (decide (x9 < (v16.Vars.length : Int))) then (idx v16.Vars x9 >>= fun v19 =>
 r02_name v19 >>= fun v20 =>
 if (!v20) then (some (.inr (.inl false)))
 else (some (.inl (IntKind.i64.wrap (x9 + 1)))))
 else (some (.inr (.inr ())))

noncomputable def r02_Right_l7 (a0 : r02_System) (x7 : Int) : Option (Sum Int (Sum Bool Unit)) :=
 if (decide (x7 < (a0.Procs.length : Int))) then (idx a0.Procs x7 >>= fun v16 =>
 ((r02_name v16.Name >>= fun v17 =>
 if (!v17) then (some true)
 else (r02_stmts v16.Body >>= fun v18 =>
 some (!v18)) : Option Bool) >>= fun j8 =>
 if j8 then (some (.inr (.inl false)))
 else (iter (r02_Right_l9 v16) 0 >>= Sum.elim (fun r => some (.inr (.inl r))) (fun j9 =>
 some (.inl (IntKind.i64.wrap (x7 + 1)))))))
 else (some (.inr (.inr ())))

noncomputable def r02_Right (a0 : r02_System) : Option Bool :=
 iter (r02_Right_l1 a0) 0 >>= Sum.elim (fun r => some r) (fun j1 =>
 iter (r02_Right_l4 a0) 0 >>= Sum.elim (fun r => some r) (fun j4 =>
 iter (r02_Right_l7 a0) 0 >>= Sum.elim (fun r => some r) (fun j7 =>
 some true)))

def r_r02_Right (r : Bool) : List XV := [xB r]

def o_r02_Right (r : Bool) : Store := []

noncomputable def R_r02_Right (r : Bool) : Tg := .r false Tryz.f15.results.toList 0 (r_r02_Right r) (o_r02_Right r)

noncomputable def r02_left (a0 : r02_Expr) (a1 : r02_Expr) : Option Bool :=
 if (decide (a0.Kind ≥ 6)) then (if (a1.Kind == 4) then (some true)
 else (some (a1.Kind == 5)))
 else (some false)

def r_r02_left (r : Bool) : List XV := [xB r]

def o_r02_left (r : Bool) : Store := []

noncomputable def R_r02_left (r : Bool) : Tg := .r false Tryz.f57.results.toList 0 (r_r02_left r) (o_r02_left r)

noncomputable def r02_right (a0 : r02_Expr) (a1 : r02_Expr) : Option Bool :=
 if (decide (a0.Kind ≥ 6)) then (r02_two a1.Kind >>= fun v1 =>
 some v1)
 else (if (a1.Kind == 4) then (some true)
 else (some (a1.Kind == 5)))

def r_r02_right (r : Bool) : List XV := [xB r]

def o_r02_right (r : Bool) : Store := []

noncomputable def R_r02_right (r : Bool) : Tg := .r false Tryz.f58.results.toList 0 (r_r02_right r) (o_r02_right r)

def r_r02_deep (r : Int) : List XV := [xI r]

def o_r02_deep (r : Int) : Store := []

noncomputable def R_r02_deep (r : Int) : Tg := .r false Tryz.f41.results.toList 0 (r_r02_deep r) (o_r02_deep r)

noncomputable def r02_deepN : Nat → r02_Expr → Option Int
  | 0, _ => none
  | n + 1, a0 => ((if (a0.Kind == 3) then (idx a0.Kids 0 >>= fun v1 =>
 r02_two v1.Kind >>= fun v2 =>
 some v2)
 else (some false) : Option Bool) >>= fun j1 =>
 if j1 then (idx a0.Kids 0 >>= fun v3 =>
 (r02_deepN n) v3 >>= fun v4 =>
 some (IntKind.i64.wrap (2 + v4)))
 else (if (a0.Kind == 3) then (idx a0.Kids 0 >>= fun v5 =>
 (r02_deepN n) v5 >>= fun v6 =>
 some (IntKind.i64.wrap (1 + v6)))
 else (r02_two a0.Kind >>= fun v7 =>
 if v7 then (idx a0.Kids 0 >>= fun v8 =>
 (r02_deepN n) v8 >>= fun v9 =>
 idx a0.Kids 1 >>= fun v10 =>
 (r02_deepN n) v10 >>= fun v11 =>
 r02_left a0 v8 >>= fun v12 =>
 if v12 then (r02_right a0 v10 >>= fun v13 =>
 if v13 then (some (max (IntKind.i64.wrap (v9 + 1)) (IntKind.i64.wrap (v11 + 1))))
 else (some (max (IntKind.i64.wrap (v9 + 1)) v11)))
 else (r02_right a0 v10 >>= fun v14 =>
 if v14 then (some (max v9 (IntKind.i64.wrap (v11 + 1))))
 else (some (max v9 v11))))
 else (some 0))))

noncomputable def r02_deep (a0 : r02_Expr) : Option Int := unf fun n => r02_deepN n a0

noncomputable def r02_blocks_l3 (F_r02_blocks : (List r02_Stmt) → Option (Int × Int)) (x3 : Unit) : Option (Sum Unit (Sum (Int × Int) Unit)) :=
 if (decide ((0 : Int) < 0)) then (none)
 else (some (.inr (.inr ())))

noncomputable def r02_blocks_l4 (F_r02_blocks : (List r02_Stmt) → Option (Int × Int)) (x4 : Unit) : Option (Sum Unit (Sum (Int × Int) Unit)) :=
 if (decide ((0 : Int) < 0)) then (none)
 else (some (.inr (.inr ())))

noncomputable def r02_blocks_l5 (F_r02_blocks : (List r02_Stmt) → Option (Int × Int)) (v4 : (List (List r02_Stmt))) (x5 : (Int × Int × Int)) : Option (Sum (Int × Int × Int) (Sum (Int × Int) (Int × Int))) :=
 if (decide (x5.2.2 < (v4.length : Int))) then (idx v4 x5.2.2 >>= fun v7 =>
 F_r02_blocks v7 >>= fun v8 =>
 some (.inl ((max x5.1 (IntKind.i64.wrap (v8.1 + 1))), (max x5.2.1 v8.2), (IntKind.i64.wrap (x5.2.2 + 1)))))
 else (some (.inr (.inr (x5.1, x5.2.1))))

noncomputable def r02_blocks_l6 (F_r02_blocks : (List r02_Stmt) → Option (Int × Int)) (v9 : (List (List r02_Stmt))) (x6 : (Int × Int × Int)) : Option (Sum (Int × Int × Int) (Sum (Int × Int) (Int × Int))) :=
 if (decide (x6.2.2 < (v9.length : Int))) then (idx v9 x6.2.2 >>= fun v12 =>
 F_r02_blocks v12 >>= fun v13 =>
 some (.inl ((max x6.1 (IntKind.i64.wrap (v13.1 + 1))), (max x6.2.1 v13.2), (IntKind.i64.wrap (x6.2.2 + 1)))))
 else (some (.inr (.inr (x6.1, x6.2.1))))

noncomputable def r02_blocks_l7 (F_r02_blocks : (List r02_Stmt) → Option (Int × Int)) (v1 : r02_Stmt) (x7 : (Int × (List (List r02_Stmt)))) : Option (Sum (Int × (List (List r02_Stmt))) (Sum (Int × Int) (List (List r02_Stmt)))) :=
 if (decide (x7.1 < (v1.Arms.length : Int))) then (idx v1.Arms x7.1 >>= fun v14 =>
 app 24 x7.2 [v14.Body] >>= fun v15 =>
 some (.inl ((IntKind.i64.wrap (x7.1 + 1)), v15)))
 else (some (.inr (.inr x7.2)))

noncomputable def r02_blocks_l8 (F_r02_blocks : (List r02_Stmt) → Option (Int × Int)) (j7 : (List (List r02_Stmt))) (x8 : (Int × Int × Int)) : Option (Sum (Int × Int × Int) (Sum (Int × Int) (Int × Int))) :=
 if (decide (x8.2.2 < (j7.length : Int))) then (idx j7 x8.2.2 >>= fun v16 =>
 F_r02_blocks v16 >>= fun v17 =>
 some (.inl ((max x8.1 (IntKind.i64.wrap (v17.1 + 1))), (max x8.2.1 v17.2), (IntKind.i64.wrap (x8.2.2 + 1)))))
 else (some (.inr (.inr (x8.1, x8.2.1))))

noncomputable def r02_blocks_l9 (F_r02_blocks : (List r02_Stmt) → Option (Int × Int)) (x9 : Unit) : Option (Sum Unit (Sum (Int × Int) Unit)) :=
 if (decide ((0 : Int) < 0)) then (none)
 else (some (.inr (.inr ())))

noncomputable def r02_blocks_l10 (F_r02_blocks : (List r02_Stmt) → Option (Int × Int)) (x10 : Unit) : Option (Sum Unit (Sum (Int × Int) Unit)) :=
 if (decide ((0 : Int) < 0)) then (none)
 else (some (.inr (.inr ())))

noncomputable def r02_blocks_l1 (F_r02_blocks : (List r02_Stmt) → Option (Int × Int)) (a0 : (List r02_Stmt)) (x1 : (Int × Int × Int)) : Option (Sum (Int × Int × Int) (Sum (Int × Int) (Int × Int))) :=
 if (decide (x1.2.2 < (a0.length : Int))) then (((idx a0 x1.2.2 >>= fun v1 =>
 if (v1.Kind == 1) then (r02_deep v1.E >>= fun v2 =>
 iter (r02_blocks_l3 F_r02_blocks) () >>= Sum.elim (fun _ => none) (fun j3 =>
 some (x1.1, (max x1.2.1 v2))))
 else (if (v1.Kind == 4) then (r02_deep v1.E >>= fun v3 =>
 iter (r02_blocks_l4 F_r02_blocks) () >>= Sum.elim (fun _ => none) (fun j4 =>
 some (x1.1, (max x1.2.1 v3))))
 else (if (v1.Kind == 2) then (app 24 [] [v1.Body, v1.Else] >>= fun v4 =>
 r02_deep v1.C.L >>= fun v5 =>
 r02_deep v1.C.R >>= fun v6 =>
 iter (r02_blocks_l5 F_r02_blocks v4) ((max x1.1 1), (max (max x1.2.1 v5) v6), 0) >>= Sum.elim (fun _ => none) (fun j5 =>
 some (j5.1, j5.2)))
 else (if (v1.Kind == 3) then (app 24 [] [v1.Body] >>= fun v9 =>
 r02_deep v1.C.L >>= fun v10 =>
 r02_deep v1.C.R >>= fun v11 =>
 iter (r02_blocks_l6 F_r02_blocks v9) ((max x1.1 1), (max (max x1.2.1 v10) v11), 0) >>= Sum.elim (fun _ => none) (fun j6 =>
 some (j6.1, j6.2)))
 else (if (v1.Kind == 5) then (iter (r02_blocks_l7 F_r02_blocks v1) (0, []) >>= Sum.elim (fun _ => none) (fun j7 =>
 iter (r02_blocks_l8 F_r02_blocks j7) ((max x1.1 1), x1.2.1, 0) >>= Sum.elim (fun _ => none) (fun j8 =>
 some (j8.1, j8.2))))
 else (if (v1.Kind == 6) then (r02_deep v1.C.L >>= fun v18 =>
 r02_deep v1.C.R >>= fun v19 =>
 iter (r02_blocks_l9 F_r02_blocks) () >>= Sum.elim (fun _ => none) (fun j9 =>
 some (x1.1, (max (max x1.2.1 v18) v19))))
 else (iter (r02_blocks_l10 F_r02_blocks) () >>= Sum.elim (fun _ => none) (fun j10 =>
 some (x1.1, x1.2.1)))))))) : Option (Int × Int)) >>= fun j2 =>
 some (.inl (j2.1, j2.2, (IntKind.i64.wrap (x1.2.2 + 1))))))
 else (some (.inr (.inr (x1.1, x1.2.1))))

def r_r02_blocks (r : (Int × Int)) : List XV := [xI r.1, xI r.2]

def o_r02_blocks (r : (Int × Int)) : Store := []

noncomputable def R_r02_blocks (r : (Int × Int)) : Tg := .r false Tryz.f16.results.toList 0 (r_r02_blocks r) (o_r02_blocks r)

noncomputable def r02_blocksN : Nat → (List r02_Stmt) → Option (Int × Int)
  | 0, _ => none
  | n + 1, a0 => iter (r02_blocks_l1 (r02_blocksN n) a0) (0, 0, 0) >>= Sum.elim (fun _ => none) (fun j1 =>
 some (j1.1, j1.2))

noncomputable def r02_blocks (a0 : (List r02_Stmt)) : Option (Int × Int) := unf fun n => r02_blocksN n a0

noncomputable def r02_exprWords_l1 (F_r02_exprWords : r02_Expr → Option (List ByteArray)) (F_r02_in : r02_Expr → Bool → Option (List ByteArray)) (x1 : (ByteArray × Int)) : Option (Sum (ByteArray × Int) (Sum (List ByteArray) ByteArray)) :=
 ((if (decide (x1.2 > 0)) then (some true)
 else (some (x1.1.toList == (ByteArray.mk #[]).toList)) : Option Bool) >>= fun j2 =>
 if j2 then (rem x1.2 10 >>= fun v1 =>
 scat (strOfNums [(IntKind.u8.wrap (IntKind.i64.wrap (48 + v1)))]) x1.1 >>= fun v2 =>
 quo .i64 x1.2 10 >>= fun v3 =>
 some (.inl (v2, v3)))
 else (some (.inr (.inr x1.1))))

def r_r02_exprWords (r : (List ByteArray)) : List XV := [xR 0]

def o_r02_exprWords (r : (List ByteArray)) : Store := [oR true 9 1 (List.map e_str r)]

noncomputable def R_r02_exprWords (r : (List ByteArray)) : Tg := .r false Tryz.f42.results.toList 0 (r_r02_exprWords r) (o_r02_exprWords r)

def r_r02_in (r : (List ByteArray)) : List XV := [xR 0]

def o_r02_in (r : (List ByteArray)) : Store := [oR true 9 1 (List.map e_str r)]

noncomputable def R_r02_in (r : (List ByteArray)) : Tg := .r false Tryz.f59.results.toList 0 (r_r02_in r) (o_r02_in r)

mutual
noncomputable def r02_exprWordsN : Nat → r02_Expr → Option (List ByteArray)
  | 0, _ => none
  | n + 1, a0 => if (a0.Kind == 1) then (iter (r02_exprWords_l1 (r02_exprWordsN n) (r02_inN n)) ((ByteArray.mk #[]), a0.Num) >>= Sum.elim (fun _ => none) (fun j1 =>
 some [j1]))
 else (if (a0.Kind == 2) then (some [a0.Name])
 else (if (a0.Kind == 3) then (idx a0.Kids 0 >>= fun v4 =>
 r02_two v4.Kind >>= fun v5 =>
 (r02_inN n) v4 v5 >>= fun v6 =>
 app 16 [(ByteArray.mk #[45])] v6 >>= fun v7 =>
 some v7)
 else (idx a0.Kids 0 >>= fun v8 =>
 r02_left a0 v8 >>= fun v9 =>
 (r02_inN n) v8 v9 >>= fun v10 =>
 idx [(ByteArray.mk #[43]), (ByteArray.mk #[45]), (ByteArray.mk #[42]), (ByteArray.mk #[47]), (ByteArray.mk #[37])] (IntKind.i64.wrap (a0.Kind - 4)) >>= fun v11 =>
 app 16 v10 [v11] >>= fun v12 =>
 idx a0.Kids 1 >>= fun v13 =>
 r02_right a0 v13 >>= fun v14 =>
 (r02_inN n) v13 v14 >>= fun v15 =>
 app 16 v12 v15 >>= fun v16 =>
 some v16)))
noncomputable def r02_inN : Nat → r02_Expr → Bool → Option (List ByteArray)
  | 0, _, _ => none
  | n + 1, a0, a1 => (r02_exprWordsN n) a0 >>= fun v1 =>
 if a1 then (app 16 [(ByteArray.mk #[40])] v1 >>= fun v2 =>
 app 16 v2 [(ByteArray.mk #[41])] >>= fun v3 =>
 some v3)
 else (some v1)
end

noncomputable def r02_exprWords (a0 : r02_Expr) : Option (List ByteArray) := unf fun n => r02_exprWordsN n a0

noncomputable def r02_in (a0 : r02_Expr) (a1 : Bool) : Option (List ByteArray) := unf fun n => r02_inN n a0 a1

noncomputable def r02_digits (a0 : Int) : Option ByteArray :=
 r02_exprWords (r02_Expr.mk 1 a0 (ByteArray.mk #[]) []) >>= fun v1 =>
 idx v1 0 >>= fun v2 =>
 some v2

def r_r02_digits (r : ByteArray) : List XV := [xS r]

def o_r02_digits (r : ByteArray) : Store := []

noncomputable def R_r02_digits (r : ByteArray) : Tg := .r false Tryz.f17.results.toList 0 (r_r02_digits r) (o_r02_digits r)

noncomputable def r02_condWords (a0 : r02_Cond) : Option (List ByteArray) :=
 r02_exprWords a0.L >>= fun v1 =>
 app 16 [(ByteArray.mk #[40])] v1 >>= fun v2 =>
 idx [(ByteArray.mk #[61, 61]), (ByteArray.mk #[33, 61]), (ByteArray.mk #[60]), (ByteArray.mk #[60, 61]), (ByteArray.mk #[62]), (ByteArray.mk #[62, 61])] (IntKind.i64.wrap (a0.Op - 1)) >>= fun v3 =>
 app 16 v2 [v3] >>= fun v4 =>
 r02_exprWords a0.R >>= fun v5 =>
 app 16 v4 v5 >>= fun v6 =>
 app 16 v6 [(ByteArray.mk #[41])] >>= fun v7 =>
 some v7

def r_r02_condWords (r : (List ByteArray)) : List XV := [xL (List.map e_str r)]

def o_r02_condWords (r : (List ByteArray)) : Store := []

noncomputable def R_r02_condWords (r : (List ByteArray)) : Tg := .r false Tryz.f43.results.toList 0 (r_r02_condWords r) (o_r02_condWords r)

noncomputable def r02_stmtWords_l3 (F_r02_stmtWords : (List r02_Stmt) → Option (List ByteArray)) (F_r02_block : (List r02_Stmt) → Option (List ByteArray)) (v1 : r02_Stmt) (x3 : (Int × (List ByteArray))) : Option (Sum (Int × (List ByteArray)) (Sum (List ByteArray) (List ByteArray))) :=
 if (decide (x3.1 < (v1.Arms.length : Int))) then (idx v1.Arms x3.1 >>= fun v24 =>
 app 16 x3.2 [v24.Tag, (ByteArray.mk #[40]), v24.Var, (ByteArray.mk #[41])] >>= fun v25 =>
 F_r02_block v24.Body >>= fun v26 =>
 app 16 v25 v26 >>= fun v27 =>
 some (.inl ((IntKind.i64.wrap (x3.1 + 1)), v27)))
 else (some (.inr (.inr x3.2)))

noncomputable def r02_stmtWords_l1 (F_r02_stmtWords : (List r02_Stmt) → Option (List ByteArray)) (F_r02_block : (List r02_Stmt) → Option (List ByteArray)) (a0 : (List r02_Stmt)) (x1 : (Int × (List ByteArray))) : Option (Sum (Int × (List ByteArray)) (Sum (List ByteArray) (List ByteArray))) :=
 if (decide (x1.1 < (a0.length : Int))) then (((idx a0 x1.1 >>= fun v1 =>
 if (v1.Kind == 1) then (app 16 x1.2 [v1.Name, (ByteArray.mk #[61])] >>= fun v2 =>
 r02_exprWords v1.E >>= fun v3 =>
 app 16 v2 v3 >>= fun v4 =>
 app 16 v4 [(ByteArray.mk #[59])] >>= fun v5 =>
 some v5)
 else (if (v1.Kind == 2) then (app 16 x1.2 [(ByteArray.mk #[105, 102])] >>= fun v6 =>
 r02_condWords v1.C >>= fun v7 =>
 app 16 v6 v7 >>= fun v8 =>
 F_r02_block v1.Body >>= fun v9 =>
 app 16 v8 v9 >>= fun v10 =>
 if (decide ((v1.Else.length : Int) > 0)) then (app 16 v10 [(ByteArray.mk #[101, 108, 115, 101])] >>= fun v11 =>
 F_r02_block v1.Else >>= fun v12 =>
 app 16 v11 v12 >>= fun v13 =>
 some v13)
 else (some v10))
 else (if (v1.Kind == 3) then (app 16 x1.2 [(ByteArray.mk #[119, 104, 105, 108, 101])] >>= fun v14 =>
 r02_condWords v1.C >>= fun v15 =>
 app 16 v14 v15 >>= fun v16 =>
 F_r02_block v1.Body >>= fun v17 =>
 app 16 v16 v17 >>= fun v18 =>
 some v18)
 else (if (v1.Kind == 4) then (app 16 x1.2 [(ByteArray.mk #[115, 101, 110, 100]), v1.Name, (ByteArray.mk #[46]), v1.Tag, (ByteArray.mk #[40])] >>= fun v19 =>
 r02_exprWords v1.E >>= fun v20 =>
 app 16 v19 v20 >>= fun v21 =>
 app 16 v21 [(ByteArray.mk #[41]), (ByteArray.mk #[59])] >>= fun v22 =>
 some v22)
 else (if (v1.Kind == 5) then (app 16 x1.2 [(ByteArray.mk #[114, 101, 99, 118]), v1.Name, (ByteArray.mk #[123])] >>= fun v23 =>
 iter (r02_stmtWords_l3 F_r02_stmtWords F_r02_block v1) (0, v23) >>= Sum.elim (fun _ => none) (fun j3 =>
 app 16 j3 [(ByteArray.mk #[125])] >>= fun v28 =>
 some v28))
 else (if (v1.Kind == 6) then (app 16 x1.2 [(ByteArray.mk #[97, 115, 115, 101, 114, 116])] >>= fun v29 =>
 r02_condWords v1.C >>= fun v30 =>
 app 16 v29 v30 >>= fun v31 =>
 app 16 v31 [(ByteArray.mk #[59])] >>= fun v32 =>
 some v32)
 else (if (v1.Kind == 7) then (app 16 x1.2 [(ByteArray.mk #[105, 110, 112, 117, 116]), v1.Name, (ByteArray.mk #[59])] >>= fun v33 =>
 some v33)
 else (some x1.2))))))) : Option (List ByteArray)) >>= fun j2 =>
 some (.inl ((IntKind.i64.wrap (x1.1 + 1)), j2))))
 else (some (.inr (.inr x1.2)))

def r_r02_stmtWords (r : (List ByteArray)) : List XV := [xL (List.map e_str r)]

def o_r02_stmtWords (r : (List ByteArray)) : Store := []

noncomputable def R_r02_stmtWords (r : (List ByteArray)) : Tg := .r false Tryz.f18.results.toList 0 (r_r02_stmtWords r) (o_r02_stmtWords r)

def r_r02_block (r : (List ByteArray)) : List XV := [xL (List.map e_str r)]

def o_r02_block (r : (List ByteArray)) : Store := []

noncomputable def R_r02_block (r : (List ByteArray)) : Tg := .r false Tryz.f44.results.toList 0 (r_r02_block r) (o_r02_block r)

mutual
noncomputable def r02_stmtWordsN : Nat → (List r02_Stmt) → Option (List ByteArray)
  | 0, _ => none
  | n + 1, a0 => iter (r02_stmtWords_l1 (r02_stmtWordsN n) (r02_blockN n) a0) (0, []) >>= Sum.elim (fun _ => none) (fun j1 =>
 some j1)
noncomputable def r02_blockN : Nat → (List r02_Stmt) → Option (List ByteArray)
  | 0, _ => none
  | n + 1, a0 => (r02_stmtWordsN n) a0 >>= fun v1 =>
 app 16 [(ByteArray.mk #[123])] v1 >>= fun v2 =>
 app 16 v2 [(ByteArray.mk #[125])] >>= fun v3 =>
 some v3
end

noncomputable def r02_stmtWords (a0 : (List r02_Stmt)) : Option (List ByteArray) := unf fun n => r02_stmtWordsN n a0

noncomputable def r02_block (a0 : (List r02_Stmt)) : Option (List ByteArray) := unf fun n => r02_blockN n a0

noncomputable def r02_Words_l1 (a0 : r02_System) (x1 : Int) : Option (Sum Int (Sum ((List ByteArray) × Int) Unit)) :=
 if (decide (x1 < (a0.Procs.length : Int))) then (idx a0.Procs x1 >>= fun v2 =>
 r02_blocks v2.Body >>= fun v3 =>
 ((if (decide (v3.1 > 24)) then (some true)
 else (some (decide (v3.2 > 24))) : Option Bool) >>= fun j2 =>
 if j2 then (some (.inr (.inl ([], 6))))
 else (some (.inl (IntKind.i64.wrap (x1 + 1))))))
 else (some (.inr (.inr ())))

noncomputable def r02_Words_l4 (v4 : r02_Chan) (x4 : (Int × (List ByteArray))) : Option (Sum (Int × (List ByteArray)) (Sum ((List ByteArray) × Int) (List ByteArray))) :=
 if (decide (x4.1 < (v4.Tags.length : Int))) then (((if (decide (x4.1 > 0)) then (app 16 x4.2 [(ByteArray.mk #[44])] >>= fun v8 =>
 idx v4.Tags x4.1 >>= fun v9 =>
 app 16 v8 [v9] >>= fun v10 =>
 some v10)
 else (idx v4.Tags x4.1 >>= fun v11 =>
 app 16 x4.2 [v11] >>= fun v12 =>
 some v12) : Option (List ByteArray)) >>= fun j5 =>
 some (.inl ((IntKind.i64.wrap (x4.1 + 1)), j5))))
 else (some (.inr (.inr x4.2)))

noncomputable def r02_Words_l3 (a0 : r02_System) (x3 : (Int × (List ByteArray))) : Option (Sum (Int × (List ByteArray)) (Sum ((List ByteArray) × Int) (List ByteArray))) :=
 if (decide (x3.1 < (a0.Chans.length : Int))) then (idx a0.Chans x3.1 >>= fun v4 =>
 idx [(ByteArray.mk #[98, 108, 111, 99, 107]), (ByteArray.mk #[100, 114, 111, 112]), (ByteArray.mk #[108, 111, 115, 115, 121])] v4.Kind >>= fun v5 =>
 r02_digits v4.Size >>= fun v6 =>
 app 16 x3.2 [(ByteArray.mk #[99, 104, 97, 110]), v4.Name, v5, v6, (ByteArray.mk #[102, 114, 111, 109]), v4.From, (ByteArray.mk #[116, 111]), v4.To, (ByteArray.mk #[123])] >>= fun v7 =>
 iter (r02_Words_l4 v4) (0, v7) >>= Sum.elim (fun _ => none) (fun j4 =>
 app 16 j4 [(ByteArray.mk #[125]), (ByteArray.mk #[59])] >>= fun v13 =>
 some (.inl ((IntKind.i64.wrap (x3.1 + 1)), v13))))
 else (some (.inr (.inr x3.2)))

noncomputable def r02_Words_l7 (a0 : r02_System) (x6 : (Int × (List ByteArray))) (x7 : (Int × (List ByteArray))) : Option (Sum (Int × (List ByteArray)) (Sum ((List ByteArray) × Int) (List ByteArray))) :=
 idx a0.Rules x6.1 >>= fun v16 =>
 if (decide (x7.1 < (v16.Moves.length : Int))) then (idx a0.Rules x6.1 >>= fun v17 =>
 idx v17.Moves x7.1 >>= fun v18 =>
 r02_digits v18.From >>= fun v19 =>
 r02_digits v18.To >>= fun v20 =>
 app 16 x7.2 [v19, v18.Tag, v20, (ByteArray.mk #[59])] >>= fun v21 =>
 some (.inl ((IntKind.i64.wrap (x7.1 + 1)), v21)))
 else (some (.inr (.inr x7.2)))

noncomputable def r02_Words_l6 (a0 : r02_System) (x6 : (Int × (List ByteArray))) : Option (Sum (Int × (List ByteArray)) (Sum ((List ByteArray) × Int) (List ByteArray))) :=
 if (decide (x6.1 < (a0.Rules.length : Int))) then (idx a0.Rules x6.1 >>= fun v14 =>
 app 16 x6.2 [(ByteArray.mk #[114, 117, 108, 101]), v14.Chan, (ByteArray.mk #[123])] >>= fun v15 =>
 iter (r02_Words_l7 a0 x6) (0, v15) >>= Sum.elim (fun _ => none) (fun j7 =>
 app 16 j7 [(ByteArray.mk #[125])] >>= fun v22 =>
 some (.inl ((IntKind.i64.wrap (x6.1 + 1)), v22))))
 else (some (.inr (.inr x6.2)))

noncomputable def r02_Words_l9 (v23 : r02_Proc) (x9 : (Int × (List ByteArray))) : Option (Sum (Int × (List ByteArray)) (Sum ((List ByteArray) × Int) (List ByteArray))) :=
 if (decide (x9.1 < (v23.Vars.length : Int))) then (idx v23.Vars x9.1 >>= fun v25 =>
 app 16 x9.2 [(ByteArray.mk #[118, 97, 114]), v25, (ByteArray.mk #[59])] >>= fun v26 =>
 some (.inl ((IntKind.i64.wrap (x9.1 + 1)), v26)))
 else (some (.inr (.inr x9.2)))

noncomputable def r02_Words_l8 (a0 : r02_System) (x8 : (Int × (List ByteArray))) : Option (Sum (Int × (List ByteArray)) (Sum ((List ByteArray) × Int) (List ByteArray))) :=
 if (decide (x8.1 < (a0.Procs.length : Int))) then (idx a0.Procs x8.1 >>= fun v23 =>
 app 16 x8.2 [(ByteArray.mk #[112, 114, 111, 99]), v23.Name, (ByteArray.mk #[123])] >>= fun v24 =>
 iter (r02_Words_l9 v23) (0, v24) >>= Sum.elim (fun _ => none) (fun j9 =>
 r02_stmtWords v23.Body >>= fun v27 =>
 app 16 j9 v27 >>= fun v28 =>
 app 16 v28 [(ByteArray.mk #[125])] >>= fun v29 =>
 some (.inl ((IntKind.i64.wrap (x8.1 + 1)), v29))))
 else (some (.inr (.inr x8.2)))

noncomputable def r02_Words (a0 : r02_System) : Option ((List ByteArray) × Int) :=
 r02_Right a0 >>= fun v1 =>
 if (!v1) then (some ([], 5))
 else (iter (r02_Words_l1 a0) 0 >>= Sum.elim (fun r => some r) (fun j1 =>
 iter (r02_Words_l3 a0) (0, []) >>= Sum.elim (fun _ => none) (fun j3 =>
 iter (r02_Words_l6 a0) (0, j3) >>= Sum.elim (fun _ => none) (fun j6 =>
 iter (r02_Words_l8 a0) (0, j6) >>= Sum.elim (fun _ => none) (fun j8 =>
 if (decide ((j8.length : Int) > 2000)) then (some ([], 4))
 else (some (j8, 0)))))))

def r_r02_Words (r : ((List ByteArray) × Int)) : List XV := [xL (List.map e_str r.1), xI r.2]

def o_r02_Words (r : ((List ByteArray) × Int)) : Store := []

noncomputable def R_r02_Words (r : ((List ByteArray) × Int)) : Tg := .r false Tryz.f7.results.toList 0 (r_r02_Words r) (o_r02_Words r)

noncomputable def ast_text (a0 : ast_System) : Option (ByteArray × Int) :=
 ast_Words a0 >>= fun q => if (textL q.1).length ≤ 140737488355328 then some (textB q.1, q.2) else none

def r_ast_text (r : (ByteArray × Int)) : List XV := [xS r.1, xI r.2]

def o_ast_text (r : (ByteArray × Int)) : Store := []

noncomputable def l02_texts : Option Bool :=
 l02_System (r02_System.mk [] [] [(r02_Proc.mk (ByteArray.mk #[112]) [] [(r02_Stmt.mk 1 (ByteArray.mk #[120]) (ByteArray.mk #[]) (r02_Expr.mk 6 0 (ByteArray.mk #[]) [(r02_Expr.mk 4 0 (ByteArray.mk #[]) [(r02_Expr.mk 2 0 (ByteArray.mk #[97]) []), (r02_Expr.mk 1 1 (ByteArray.mk #[]) [])]), (r02_Expr.mk 1 2 (ByteArray.mk #[]) [])]) (r02_Cond.mk 0 (r02_Expr.mk 0 0 (ByteArray.mk #[]) []) (r02_Expr.mk 0 0 (ByteArray.mk #[]) [])) [] [] [])])]) >>= fun v1 =>
 ast_text v1 >>= fun v2 =>
 if (v2.2 == 0) then (some (v2.1.toList == (ByteArray.mk #[112, 114, 111, 99, 32, 112, 32, 123, 32, 120, 32, 61, 32, 40, 32, 97, 32, 43, 32, 49, 32, 41, 32, 42, 32, 50, 32, 59, 32, 125, 32]).toList))
 else (some false)

def r_l02_texts (r : Bool) : List XV := [xB r]

def o_l02_texts (r : Bool) : Store := []

noncomputable def R_l02_texts (r : Bool) : Tg := .r false Tryz.f8.results.toList 0 (r_l02_texts r) (o_l02_texts r)

noncomputable def l02_AstExprs_l2 (v2 : ((List ByteArray) × Int)) (v3 : ((List ByteArray) × Int)) (x2 : Int) : Option (Sum Int (Sum Bool Unit)) :=
 if (decide (x2 < (v3.1.length : Int))) then (idx v2.1 x2 >>= fun v5 =>
 idx v3.1 x2 >>= fun v6 =>
 if (!(v5.toList == v6.toList)) then (some (.inr (.inl false)))
 else (some (.inl (IntKind.i64.wrap (x2 + 1)))))
 else (some (.inr (.inr ())))

noncomputable def l02_AstExprs (a0 : r02_Expr) : Option Bool :=
 l02_System (r02_System.mk [] [] [(r02_Proc.mk (ByteArray.mk #[112]) [] [(r02_Stmt.mk 1 (ByteArray.mk #[120]) (ByteArray.mk #[]) a0 (r02_Cond.mk 0 (r02_Expr.mk 0 0 (ByteArray.mk #[]) []) (r02_Expr.mk 0 0 (ByteArray.mk #[]) [])) [] [] [])])]) >>= fun v1 =>
 ast_Words v1 >>= fun v2 =>
 r02_Words (r02_System.mk [] [] [(r02_Proc.mk (ByteArray.mk #[112]) [] [(r02_Stmt.mk 1 (ByteArray.mk #[120]) (ByteArray.mk #[]) a0 (r02_Cond.mk 0 (r02_Expr.mk 0 0 (ByteArray.mk #[]) []) (r02_Expr.mk 0 0 (ByteArray.mk #[]) [])) [] [] [])])]) >>= fun v3 =>
 ((l02_texts >>= fun v4 =>
 if (!v4) then (some true)
 else (if (v2.2 != v3.2) then (some true)
 else (some ((v2.1.length : Int) != (v3.1.length : Int)))) : Option Bool) >>= fun j1 =>
 if j1 then (some false)
 else (iter (l02_AstExprs_l2 v2 v3) 0 >>= Sum.elim (fun r => some r) (fun j2 =>
 some true)))

def r_l02_AstExprs (r : Bool) : List XV := [xB r]

def o_l02_AstExprs (r : Bool) : Store := []

noncomputable def R_l02_AstExprs (r : Bool) : Tg := .r false Tryz.f3.results.toList 0 (r_l02_AstExprs r) (o_l02_AstExprs r)

noncomputable def ast_Move__l1 (a0 : (List ast_Move)) (a1 : (List ast_Move)) (x1 : Int) : Option (Sum Int (Sum Bool Unit)) :=
 if (decide (x1 < (a0.length : Int))) then (idx a0 x1 >>= fun v1 =>
 idx a1 x1 >>= fun v2 =>
 if (!((v1.From : Int) == v2.From && (v1.Tag.toList == v2.Tag.toList && ((v1.To : Int) == v2.To && true)))) then (some (.inr (.inl false)))
 else (some (.inl (IntKind.i64.wrap (x1 + 1)))))
 else (some (.inr (.inr ())))

noncomputable def ast_Move_ (a0 : (List ast_Move)) (a1 : (List ast_Move)) : Option Bool :=
 if ((a0.length : Int) != (a1.length : Int)) then (some false)
 else (iter (ast_Move__l1 a0 a1) 0 >>= Sum.elim (fun r => some r) (fun j1 =>
 some true))

def r_ast_Move_ (r : Bool) : List XV := [xB r]

def o_ast_Move_ (r : Bool) : Store := []

noncomputable def R_ast_Move_ (r : Bool) : Tg := .r false Tryz.f23.results.toList 0 (r_ast_Move_ r) (o_ast_Move_ r)

noncomputable def ast_Same_1 (a0 : ast_Rule) (a1 : ast_Rule) : Option Bool :=
 if (a0.Chan.toList == a1.Chan.toList) then (ast_Move_ a0.Moves a1.Moves >>= fun v1 =>
 some v1)
 else (some false)

def r_ast_Same_1 (r : Bool) : List XV := [xB r]

def o_ast_Same_1 (r : Bool) : Store := []

noncomputable def R_ast_Same_1 (r : Bool) : Tg := .r false Tryz.f22.results.toList 0 (r_ast_Same_1 r) (o_ast_Same_1 r)

noncomputable def ast_Rule__ast_Same_1_l1 (a0 : (List ast_Rule)) (a1 : (List ast_Rule)) (x1 : Int) : Option (Sum Int (Sum Bool Unit)) :=
 if (decide (x1 < (a0.length : Int))) then (idx a0 x1 >>= fun v1 =>
 idx a1 x1 >>= fun v2 =>
 ast_Same_1 v1 v2 >>= fun v3 =>
 if (!v3) then (some (.inr (.inl false)))
 else (some (.inl (IntKind.i64.wrap (x1 + 1)))))
 else (some (.inr (.inr ())))

noncomputable def ast_Rule__ast_Same_1 (a0 : (List ast_Rule)) (a1 : (List ast_Rule)) : Option Bool :=
 if ((a0.length : Int) != (a1.length : Int)) then (some false)
 else (iter (ast_Rule__ast_Same_1_l1 a0 a1) 0 >>= Sum.elim (fun r => some r) (fun j1 =>
 some true))

def r_ast_Rule__ast_Same_1 (r : Bool) : List XV := [xB r]

def o_ast_Rule__ast_Same_1 (r : Bool) : Store := []

noncomputable def R_ast_Rule__ast_Same_1 (r : Bool) : Tg := .r false Tryz.f21.results.toList 0 (r_ast_Rule__ast_Same_1 r) (o_ast_Rule__ast_Same_1 r)

noncomputable def slices_Equal_string_string__l1 (a0 : (List ByteArray)) (a1 : (List ByteArray)) (x1 : Int) : Option (Sum Int (Sum Bool Unit)) :=
 if (decide (x1 < (a0.length : Int))) then (idx a0 x1 >>= fun v1 =>
 idx a1 x1 >>= fun v2 =>
 if (!(v1.toList == v2.toList)) then (some (.inr (.inl false)))
 else (some (.inl (IntKind.i64.wrap (x1 + 1)))))
 else (some (.inr (.inr ())))

noncomputable def slices_Equal_string_string_ (a0 : (List ByteArray)) (a1 : (List ByteArray)) : Option Bool :=
 if ((a0.length : Int) != (a1.length : Int)) then (some false)
 else (iter (slices_Equal_string_string__l1 a0 a1) 0 >>= Sum.elim (fun r => some r) (fun j1 =>
 some true))

def r_slices_Equal_string_string_ (r : Bool) : List XV := [xB r]

def o_slices_Equal_string_string_ (r : Bool) : Store := []

noncomputable def R_slices_Equal_string_string_ (r : Bool) : Tg := .r false Tryz.f26.results.toList 0 (r_slices_Equal_string_string_ r) (o_slices_Equal_string_string_ r)

def r_ast_sameExpr (r : Bool) : List XV := [xB r]

def o_ast_sameExpr (r : Bool) : Store := []

noncomputable def R_ast_sameExpr (r : Bool) : Tg := .r false Tryz.f46.results.toList 0 (r_ast_sameExpr r) (o_ast_sameExpr r)

noncomputable def ast_Expr__ast_sameExpr_l1 (F_ast_sameExpr : ast_Expr → ast_Expr → Option Bool) (F_ast_Expr__ast_sameExpr : (List ast_Expr) → (List ast_Expr) → Option Bool) (a0 : (List ast_Expr)) (a1 : (List ast_Expr)) (x1 : Int) : Option (Sum Int (Sum Bool Unit)) :=
 if (decide (x1 < (a0.length : Int))) then (idx a0 x1 >>= fun v1 =>
 idx a1 x1 >>= fun v2 =>
 F_ast_sameExpr v1 v2 >>= fun v3 =>
 if (!v3) then (some (.inr (.inl false)))
 else (some (.inl (IntKind.i64.wrap (x1 + 1)))))
 else (some (.inr (.inr ())))

def r_ast_Expr__ast_sameExpr (r : Bool) : List XV := [xB r]

def o_ast_Expr__ast_sameExpr (r : Bool) : Store := []

noncomputable def R_ast_Expr__ast_sameExpr (r : Bool) : Tg := .r false Tryz.f61.results.toList 0 (r_ast_Expr__ast_sameExpr r) (o_ast_Expr__ast_sameExpr r)

mutual
noncomputable def ast_sameExprN : Nat → ast_Expr → ast_Expr → Option Bool
  | 0, _, _ => none
  | n + 1, a0, a1 => ((if (a0.Kind != a1.Kind) then (some true)
 else (if (a0.Kind == 1) then (if (a0.Num != a1.Num) then (some true)
 else (if (a0.Kind == 2) then (some (!(a0.Name.toList == a1.Name.toList)))
 else (some false)))
 else (if (a0.Kind == 2) then (some (!(a0.Name.toList == a1.Name.toList)))
 else (some false))) : Option Bool) >>= fun j1 =>
 if j1 then (some false)
 else ((ast_Expr__ast_sameExprN n) a0.Kids a1.Kids >>= fun v1 =>
 some v1))
noncomputable def ast_Expr__ast_sameExprN : Nat → (List ast_Expr) → (List ast_Expr) → Option Bool
  | 0, _, _ => none
  | n + 1, a0, a1 => if ((a0.length : Int) != (a1.length : Int)) then (some false)
 else (iter (ast_Expr__ast_sameExpr_l1 (ast_sameExprN n) (ast_Expr__ast_sameExprN n) a0 a1) 0 >>= Sum.elim (fun r => some r) (fun j1 =>
 some true))
end

noncomputable def ast_sameExpr (a0 : ast_Expr) (a1 : ast_Expr) : Option Bool := unf fun n => ast_sameExprN n a0 a1

noncomputable def ast_Expr__ast_sameExpr (a0 : (List ast_Expr)) (a1 : (List ast_Expr)) : Option Bool := unf fun n => ast_Expr__ast_sameExprN n a0 a1

noncomputable def ast_sameCond (a0 : ast_Cond) (a1 : ast_Cond) : Option Bool :=
 if (a0.Op == a1.Op) then (ast_sameExpr a0.L a1.L >>= fun v1 =>
 if v1 then (ast_sameExpr a0.R a1.R >>= fun v2 =>
 some v2)
 else (some false))
 else (some false)

def r_ast_sameCond (r : Bool) : List XV := [xB r]

def o_ast_sameCond (r : Bool) : Store := []

noncomputable def R_ast_sameCond (r : Bool) : Tg := .r false Tryz.f47.results.toList 0 (r_ast_sameCond r) (o_ast_sameCond r)

noncomputable def ast_Stmt__ast_sameStmt_l1 (F_ast_Stmt__ast_sameStmt : (List ast_Stmt) → (List ast_Stmt) → Option Bool) (F_ast_sameStmt : ast_Stmt → ast_Stmt → Option Bool) (F_ast_Arm__ast_sameArm : (List ast_Arm) → (List ast_Arm) → Option Bool) (F_ast_sameArm : ast_Arm → ast_Arm → Option Bool) (a0 : (List ast_Stmt)) (a1 : (List ast_Stmt)) (x1 : Int) : Option (Sum Int (Sum Bool Unit)) :=
 if (decide (x1 < (a0.length : Int))) then (idx a0 x1 >>= fun v1 =>
 idx a1 x1 >>= fun v2 =>
 F_ast_sameStmt v1 v2 >>= fun v3 =>
 if (!v3) then (some (.inr (.inl false)))
 else (some (.inl (IntKind.i64.wrap (x1 + 1)))))
 else (some (.inr (.inr ())))

def r_ast_Stmt__ast_sameStmt (r : Bool) : List XV := [xB r]

def o_ast_Stmt__ast_sameStmt (r : Bool) : Store := []

noncomputable def R_ast_Stmt__ast_sameStmt (r : Bool) : Tg := .r false Tryz.f27.results.toList 0 (r_ast_Stmt__ast_sameStmt r) (o_ast_Stmt__ast_sameStmt r)

def r_ast_sameStmt (r : Bool) : List XV := [xB r]

def o_ast_sameStmt (r : Bool) : Store := []

noncomputable def R_ast_sameStmt (r : Bool) : Tg := .r false Tryz.f28.results.toList 0 (r_ast_sameStmt r) (o_ast_sameStmt r)

noncomputable def ast_Arm__ast_sameArm_l1 (F_ast_Stmt__ast_sameStmt : (List ast_Stmt) → (List ast_Stmt) → Option Bool) (F_ast_sameStmt : ast_Stmt → ast_Stmt → Option Bool) (F_ast_Arm__ast_sameArm : (List ast_Arm) → (List ast_Arm) → Option Bool) (F_ast_sameArm : ast_Arm → ast_Arm → Option Bool) (a0 : (List ast_Arm)) (a1 : (List ast_Arm)) (x1 : Int) : Option (Sum Int (Sum Bool Unit)) :=
 if (decide (x1 < (a0.length : Int))) then (idx a0 x1 >>= fun v1 =>
 idx a1 x1 >>= fun v2 =>
 F_ast_sameArm v1 v2 >>= fun v3 =>
 if (!v3) then (some (.inr (.inl false)))
 else (some (.inl (IntKind.i64.wrap (x1 + 1)))))
 else (some (.inr (.inr ())))

def r_ast_Arm__ast_sameArm (r : Bool) : List XV := [xB r]

def o_ast_Arm__ast_sameArm (r : Bool) : Store := []

noncomputable def R_ast_Arm__ast_sameArm (r : Bool) : Tg := .r false Tryz.f48.results.toList 0 (r_ast_Arm__ast_sameArm r) (o_ast_Arm__ast_sameArm r)

def r_ast_sameArm (r : Bool) : List XV := [xB r]

def o_ast_sameArm (r : Bool) : Store := []

noncomputable def R_ast_sameArm (r : Bool) : Tg := .r false Tryz.f49.results.toList 0 (r_ast_sameArm r) (o_ast_sameArm r)

mutual
noncomputable def ast_Stmt__ast_sameStmtN : Nat → (List ast_Stmt) → (List ast_Stmt) → Option Bool
  | 0, _, _ => none
  | n + 1, a0, a1 => if ((a0.length : Int) != (a1.length : Int)) then (some false)
 else (iter (ast_Stmt__ast_sameStmt_l1 (ast_Stmt__ast_sameStmtN n) (ast_sameStmtN n) (ast_Arm__ast_sameArmN n) (ast_sameArmN n) a0 a1) 0 >>= Sum.elim (fun r => some r) (fun j1 =>
 some true))
noncomputable def ast_sameStmtN : Nat → ast_Stmt → ast_Stmt → Option Bool
  | 0, _, _ => none
  | n + 1, a0, a1 => if (a0.Kind != a1.Kind) then (some false)
 else (if (a0.Kind == 1) then (((if (a0.Name.toList == a1.Name.toList) then (ast_sameExpr a0.E a1.E >>= fun v1 =>
 some v1)
 else (some false) : Option Bool) >>= fun j1 =>
 some j1))
 else (if (a0.Kind == 2) then (((ast_sameCond a0.C a1.C >>= fun v2 =>
 if v2 then ((ast_Stmt__ast_sameStmtN n) a0.Body a1.Body >>= fun v3 =>
 if v3 then ((ast_Stmt__ast_sameStmtN n) a0.Else a1.Else >>= fun v4 =>
 some v4)
 else (some false))
 else (some false) : Option Bool) >>= fun j2 =>
 some j2))
 else (if (a0.Kind == 3) then (((ast_sameCond a0.C a1.C >>= fun v5 =>
 if v5 then ((ast_Stmt__ast_sameStmtN n) a0.Body a1.Body >>= fun v6 =>
 some v6)
 else (some false) : Option Bool) >>= fun j3 =>
 some j3))
 else (if (a0.Kind == 4) then (((if (a0.Name.toList == a1.Name.toList) then (if (a0.Tag.toList == a1.Tag.toList) then (ast_sameExpr a0.E a1.E >>= fun v7 =>
 some v7)
 else (some false))
 else (some false) : Option Bool) >>= fun j4 =>
 some j4))
 else (if (a0.Kind == 5) then (((if (a0.Name.toList == a1.Name.toList) then ((ast_Arm__ast_sameArmN n) a0.Arms a1.Arms >>= fun v8 =>
 some v8)
 else (some false) : Option Bool) >>= fun j5 =>
 some j5))
 else (if (a0.Kind == 6) then (ast_sameCond a0.C a1.C >>= fun v9 =>
 some v9)
 else (if (a0.Kind == 7) then (some (a0.Name.toList == a1.Name.toList))
 else (some true))))))))
noncomputable def ast_Arm__ast_sameArmN : Nat → (List ast_Arm) → (List ast_Arm) → Option Bool
  | 0, _, _ => none
  | n + 1, a0, a1 => if ((a0.length : Int) != (a1.length : Int)) then (some false)
 else (iter (ast_Arm__ast_sameArm_l1 (ast_Stmt__ast_sameStmtN n) (ast_sameStmtN n) (ast_Arm__ast_sameArmN n) (ast_sameArmN n) a0 a1) 0 >>= Sum.elim (fun r => some r) (fun j1 =>
 some true))
noncomputable def ast_sameArmN : Nat → ast_Arm → ast_Arm → Option Bool
  | 0, _, _ => none
  | n + 1, a0, a1 => if (a0.Tag.toList == a1.Tag.toList) then (if (a0.Var.toList == a1.Var.toList) then ((ast_Stmt__ast_sameStmtN n) a0.Body a1.Body >>= fun v1 =>
 some v1)
 else (some false))
 else (some false)
end

noncomputable def ast_Stmt__ast_sameStmt (a0 : (List ast_Stmt)) (a1 : (List ast_Stmt)) : Option Bool := unf fun n => ast_Stmt__ast_sameStmtN n a0 a1

noncomputable def ast_sameStmt (a0 : ast_Stmt) (a1 : ast_Stmt) : Option Bool := unf fun n => ast_sameStmtN n a0 a1

noncomputable def ast_Arm__ast_sameArm (a0 : (List ast_Arm)) (a1 : (List ast_Arm)) : Option Bool := unf fun n => ast_Arm__ast_sameArmN n a0 a1

noncomputable def ast_sameArm (a0 : ast_Arm) (a1 : ast_Arm) : Option Bool := unf fun n => ast_sameArmN n a0 a1

noncomputable def ast_Same_2 (a0 : ast_Proc) (a1 : ast_Proc) : Option Bool :=
 if (a0.Name.toList == a1.Name.toList) then (slices_Equal_string_string_ a0.Vars a1.Vars >>= fun v1 =>
 if v1 then (ast_Stmt__ast_sameStmt a0.Body a1.Body >>= fun v2 =>
 some v2)
 else (some false))
 else (some false)

def r_ast_Same_2 (r : Bool) : List XV := [xB r]

def o_ast_Same_2 (r : Bool) : Store := []

noncomputable def R_ast_Same_2 (r : Bool) : Tg := .r false Tryz.f25.results.toList 0 (r_ast_Same_2 r) (o_ast_Same_2 r)

noncomputable def ast_Proc__ast_Same_2_l1 (a0 : (List ast_Proc)) (a1 : (List ast_Proc)) (x1 : Int) : Option (Sum Int (Sum Bool Unit)) :=
 if (decide (x1 < (a0.length : Int))) then (idx a0 x1 >>= fun v1 =>
 idx a1 x1 >>= fun v2 =>
 ast_Same_2 v1 v2 >>= fun v3 =>
 if (!v3) then (some (.inr (.inl false)))
 else (some (.inl (IntKind.i64.wrap (x1 + 1)))))
 else (some (.inr (.inr ())))

noncomputable def ast_Proc__ast_Same_2 (a0 : (List ast_Proc)) (a1 : (List ast_Proc)) : Option Bool :=
 if ((a0.length : Int) != (a1.length : Int)) then (some false)
 else (iter (ast_Proc__ast_Same_2_l1 a0 a1) 0 >>= Sum.elim (fun r => some r) (fun j1 =>
 some true))

def r_ast_Proc__ast_Same_2 (r : Bool) : List XV := [xB r]

def o_ast_Proc__ast_Same_2 (r : Bool) : Store := []

noncomputable def R_ast_Proc__ast_Same_2 (r : Bool) : Tg := .r false Tryz.f24.results.toList 0 (r_ast_Proc__ast_Same_2 r) (o_ast_Proc__ast_Same_2 r)

noncomputable def ast_sameChan (a0 : ast_Chan) (a1 : ast_Chan) : Option Bool :=
 ((if (a0.Name.toList == a1.Name.toList) then (if (a0.Kind == a1.Kind) then (if (a0.Size == a1.Size) then (if (a0.From.toList == a1.From.toList) then (if (a0.To.toList == a1.To.toList) then (slices_Equal_string_string_ a0.Tags a1.Tags >>= fun v1 =>
 some v1)
 else (some false))
 else (some false))
 else (some false))
 else (some false))
 else (some false) : Option Bool) >>= fun j1 =>
 some j1)

def r_ast_sameChan (r : Bool) : List XV := [xB r]

def o_ast_sameChan (r : Bool) : Store := []

noncomputable def R_ast_sameChan (r : Bool) : Tg := .r false Tryz.f30.results.toList 0 (r_ast_sameChan r) (o_ast_sameChan r)

noncomputable def ast_Chan__ast_sameChan_l1 (a0 : (List ast_Chan)) (a1 : (List ast_Chan)) (x1 : Int) : Option (Sum Int (Sum Bool Unit)) :=
 if (decide (x1 < (a0.length : Int))) then (idx a0 x1 >>= fun v1 =>
 idx a1 x1 >>= fun v2 =>
 ast_sameChan v1 v2 >>= fun v3 =>
 if (!v3) then (some (.inr (.inl false)))
 else (some (.inl (IntKind.i64.wrap (x1 + 1)))))
 else (some (.inr (.inr ())))

noncomputable def ast_Chan__ast_sameChan (a0 : (List ast_Chan)) (a1 : (List ast_Chan)) : Option Bool :=
 if ((a0.length : Int) != (a1.length : Int)) then (some false)
 else (iter (ast_Chan__ast_sameChan_l1 a0 a1) 0 >>= Sum.elim (fun r => some r) (fun j1 =>
 some true))

def r_ast_Chan__ast_sameChan (r : Bool) : List XV := [xB r]

def o_ast_Chan__ast_sameChan (r : Bool) : Store := []

noncomputable def R_ast_Chan__ast_sameChan (r : Bool) : Tg := .r false Tryz.f29.results.toList 0 (r_ast_Chan__ast_sameChan r) (o_ast_Chan__ast_sameChan r)

noncomputable def ast_Same (a0 : ast_System) (a1 : ast_System) : Option Bool :=
 ast_Rule__ast_Same_1 a0.Rules a1.Rules >>= fun v1 =>
 ast_Proc__ast_Same_2 a0.Procs a1.Procs >>= fun v2 =>
 if v1 then (if v2 then (ast_Chan__ast_sameChan a0.Chans a1.Chans >>= fun v3 =>
 some v3)
 else (some false))
 else (some false)

def r_ast_Same (r : Bool) : List XV := [xB r]

def o_ast_Same (r : Bool) : Store := []

noncomputable def R_ast_Same (r : Bool) : Tg := .r false Tryz.f10.results.toList 0 (r_ast_Same r) (o_ast_Same r)

noncomputable def l02_AstTexts_l2 (v2 : ((List ByteArray) × Int)) (v4 : ((List ByteArray) × Int)) (x2 : (ByteArray × Int)) : Option (Sum (ByteArray × Int) (Sum Bool ByteArray)) :=
 if (decide (x2.2 < (v4.1.length : Int))) then (idx v2.1 x2.2 >>= fun v6 =>
 idx v4.1 x2.2 >>= fun v7 =>
 if (!(v6.toList == v7.toList)) then (some (.inr (.inl false)))
 else (scat x2.1 v7 >>= fun v8 =>
 scat v8 (ByteArray.mk #[32]) >>= fun v9 =>
 some (.inl (v9, (IntKind.i64.wrap (x2.2 + 1))))))
 else (some (.inr (.inr x2.1)))

noncomputable def l02_AstTexts (a0 : r02_System) : Option Bool :=
 l02_System a0 >>= fun v1 =>
 ast_Words v1 >>= fun v2 =>
 ast_text v1 >>= fun v3 =>
 r02_Words a0 >>= fun v4 =>
 ((l02_texts >>= fun v5 =>
 if (!v5) then (some true)
 else (if (v2.2 != v4.2) then (some true)
 else (if (v3.2 != v4.2) then (some true)
 else (some ((v2.1.length : Int) != (v4.1.length : Int))))) : Option Bool) >>= fun j1 =>
 if j1 then (some false)
 else (iter (l02_AstTexts_l2 v2 v4) ((ByteArray.mk #[]), 0) >>= Sum.elim (fun r => some r) (fun j2 =>
 if (v3.1.toList == j2.toList) then (l02_System a0 >>= fun v10 =>
 ast_Same v1 v10 >>= fun v11 =>
 some v11)
 else (some false))))

def r_l02_AstTexts (r : Bool) : List XV := [xB r]

def o_l02_AstTexts (r : Bool) : Store := []

noncomputable def R_l02_AstTexts (r : Bool) : Tg := .r false Tryz.f4.results.toList 0 (r_l02_AstTexts r) (o_l02_AstTexts r)
end Go.Proofs.YtaaihamelknhdaaGreatDoor.Abs
