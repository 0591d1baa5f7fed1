/- Gw: the functions, told by typed values. -/
import Derived.Test.YtokjbpmjdcbogaaGreatDoorHandT
import Derived.Test.YtokjbpmjdcbogaaGreatDoorProg
namespace Go.Proofs.YtokjbpmjdcbogaaGreatDoor.Abs
open Go Go.RowKit
set_option linter.unusedVariables false

structure ast_Chan where
  Name : ByteArray
  Kind : Int
  Size : Int
  From : ByteArray
  To : ByteArray
  Tags : (List ByteArray)
structure ast_Move where
  From : Int
  Tag : ByteArray
  To : Int
structure ast_Rule where
  Chan : ByteArray
  Moves : (List ast_Move)
structure ast_Expr where
  Kind : Int
  Num : Int
  Name : ByteArray
  Kids : (List ast_Expr)
structure ast_Cond where
  Op : Int
  L : ast_Expr
  R : ast_Expr
mutual
inductive ast_Arm where
  | mk (Tag : ByteArray) (Var : ByteArray) (Body : (List ast_Stmt))
inductive ast_Stmt where
  | mk (Kind : Int) (Name : ByteArray) (Tag : ByteArray) (E : ast_Expr) (C : ast_Cond) (Body : (List ast_Stmt)) (Else : (List ast_Stmt)) (Arms : (List ast_Arm))
end
def ast_Arm.Tag : ast_Arm → ByteArray
  | .mk x _ _ => x
def ast_Arm.Var : ast_Arm → ByteArray
  | .mk _ x _ => x
def ast_Arm.Body : ast_Arm → (List ast_Stmt)
  | .mk _ _ x => x
def ast_Stmt.Kind : ast_Stmt → Int
  | .mk x _ _ _ _ _ _ _ => x
def ast_Stmt.Name : ast_Stmt → ByteArray
  | .mk _ x _ _ _ _ _ _ => x
def ast_Stmt.Tag : ast_Stmt → ByteArray
  | .mk _ _ x _ _ _ _ _ => x
def ast_Stmt.E : ast_Stmt → ast_Expr
  | .mk _ _ _ x _ _ _ _ => x
def ast_Stmt.C : ast_Stmt → ast_Cond
  | .mk _ _ _ _ x _ _ _ => x
def ast_Stmt.Body : ast_Stmt → (List ast_Stmt)
  | .mk _ _ _ _ _ x _ _ => x
def ast_Stmt.Else : ast_Stmt → (List ast_Stmt)
  | .mk _ _ _ _ _ _ x _ => x
def ast_Stmt.Arms : ast_Stmt → (List ast_Arm)
  | .mk _ _ _ _ _ _ _ x => x
structure ast_Proc where
  Name : ByteArray
  Vars : (List ByteArray)
  Body : (List ast_Stmt)
structure r02_Chan where
  Name : ByteArray
  Kind : Int
  Size : Int
  From : ByteArray
  To : ByteArray
  Tags : (List ByteArray)
structure r02_Move where
  From : Int
  Tag : ByteArray
  To : Int
structure r02_Rule where
  Chan : ByteArray
  Moves : (List r02_Move)
structure r02_Expr where
  Kind : Int
  Num : Int
  Name : ByteArray
  Kids : (List r02_Expr)
structure r02_Cond where
  Op : Int
  L : r02_Expr
  R : r02_Expr
mutual
inductive r02_Arm where
  | mk (Tag : ByteArray) (Var : ByteArray) (Body : (List r02_Stmt))
inductive r02_Stmt where
  | mk (Kind : Int) (Name : ByteArray) (Tag : ByteArray) (E : r02_Expr) (C : r02_Cond) (Body : (List r02_Stmt)) (Else : (List r02_Stmt)) (Arms : (List r02_Arm))
end
def r02_Arm.Tag : r02_Arm → ByteArray
  | .mk x _ _ => x
def r02_Arm.Var : r02_Arm → ByteArray
  | .mk _ x _ => x
def r02_Arm.Body : r02_Arm → (List r02_Stmt)
  | .mk _ _ x => x
def r02_Stmt.Kind : r02_Stmt → Int
  | .mk x _ _ _ _ _ _ _ => x
def r02_Stmt.Name : r02_Stmt → ByteArray
  | .mk _ x _ _ _ _ _ _ => x
def r02_Stmt.Tag : r02_Stmt → ByteArray
  | .mk _ _ x _ _ _ _ _ => x
def r02_Stmt.E : r02_Stmt → r02_Expr
  | .mk _ _ _ x _ _ _ _ => x
def r02_Stmt.C : r02_Stmt → r02_Cond
  | .mk _ _ _ _ x _ _ _ => x
def r02_Stmt.Body : r02_Stmt → (List r02_Stmt)
  | .mk _ _ _ _ _ x _ _ => x
def r02_Stmt.Else : r02_Stmt → (List r02_Stmt)
  | .mk _ _ _ _ _ _ x _ => x
def r02_Stmt.Arms : r02_Stmt → (List r02_Arm)
  | .mk _ _ _ _ _ _ _ x => x
structure r02_Proc where
  Name : ByteArray
  Vars : (List ByteArray)
  Body : (List r02_Stmt)
structure lex_Token where
  Kind : Int
  Text : ByteArray
  Num : Int
  At : Int
structure r01_Token where
  Kind : Int
  Text : ByteArray
  Num : Int
  At : Int
structure ast_System where
  Chans : (List ast_Chan)
  Rules : (List ast_Rule)
  Procs : (List ast_Proc)
def e_lex_Token (x : lex_Token) : List PV := [.int .i64 x.Kind, .str x.Text, .int .i64 x.Num, .int .i64 x.At]
structure parse_reader where
  f_l : (List lex_Token)
  f_end : Int
  f_e : Int
  f_at : Int
  f_deep : Int
  f_in : Int
def e_parse_reader (x : parse_reader) : List PV := [.sl (List.map e_lex_Token x.f_l), .int .i64 x.f_end, .int .i64 x.f_e, .int .i64 x.f_at, .int .i64 x.f_deep, .int .i64 x.f_in]
def e_str (x : ByteArray) : List PV := [.str x]
def e_ast_Chan (x : ast_Chan) : List PV := [.str x.Name, .int .i64 x.Kind, .int .i64 x.Size, .str x.From, .str x.To, .sl (List.map e_str x.Tags)]
def e_ast_Move (x : ast_Move) : List PV := [.int .i64 x.From, .str x.Tag, .int .i64 x.To]
def e_ast_Rule (x : ast_Rule) : List PV := [.str x.Chan, .sl (List.map e_ast_Move x.Moves)]
mutual
def e_ast_Expr : ast_Expr → List PV
  | .mk z_Kind z_Num z_Name z_Kids => [.int .i64 z_Kind, .int .i64 z_Num, .str z_Name, .sl (e_ast_Expr_l z_Kids)]
def e_ast_Expr_l : List ast_Expr → List (List PV)
  | [] => []
  | x :: xs => e_ast_Expr x :: e_ast_Expr_l xs
end
theorem e_ast_Expr_l_eq : ∀ l, e_ast_Expr_l l = List.map e_ast_Expr l
  | [] => rfl
  | x :: xs => by rw [e_ast_Expr_l, e_ast_Expr_l_eq xs]; rfl
theorem e_ast_Expr_eq (x : ast_Expr) : e_ast_Expr x = [.int .i64 x.Kind, .int .i64 x.Num, .str x.Name, .sl (List.map e_ast_Expr x.Kids)] := by
  cases x; rw [e_ast_Expr, e_ast_Expr_l_eq]
theorem e_ast_Expr_len (x : ast_Expr) : (e_ast_Expr x).length = 4 := by rw [e_ast_Expr_eq]; rfl
mutual
def e_ast_Arm : ast_Arm → List PV
  | .mk z_Tag z_Var z_Body => [.str z_Tag, .str z_Var, .sl (e_ast_Stmt_l z_Body)]
def e_ast_Arm_l : List ast_Arm → List (List PV)
  | [] => []
  | x :: xs => e_ast_Arm x :: e_ast_Arm_l xs
def e_ast_Stmt : ast_Stmt → List PV
  | .mk z_Kind z_Name z_Tag z_E z_C z_Body z_Else z_Arms => [.int .i64 z_Kind, .str z_Name, .str z_Tag, .int .i64 z_E.Kind, .int .i64 z_E.Num, .str z_E.Name, .sl (List.map e_ast_Expr z_E.Kids), .int .i64 z_C.Op, .int .i64 z_C.L.Kind, .int .i64 z_C.L.Num, .str z_C.L.Name, .sl (List.map e_ast_Expr z_C.L.Kids), .int .i64 z_C.R.Kind, .int .i64 z_C.R.Num, .str z_C.R.Name, .sl (List.map e_ast_Expr z_C.R.Kids), .sl (e_ast_Stmt_l z_Body), .sl (e_ast_Stmt_l z_Else), .sl (e_ast_Arm_l z_Arms)]
def e_ast_Stmt_l : List ast_Stmt → List (List PV)
  | [] => []
  | x :: xs => e_ast_Stmt x :: e_ast_Stmt_l xs
end
theorem e_ast_Arm_l_eq : ∀ l, e_ast_Arm_l l = List.map e_ast_Arm l
  | [] => by rw [e_ast_Arm_l]; rfl
  | x :: xs => by rw [e_ast_Arm_l, e_ast_Arm_l_eq xs]; rfl
theorem e_ast_Stmt_l_eq : ∀ l, e_ast_Stmt_l l = List.map e_ast_Stmt l
  | [] => by rw [e_ast_Stmt_l]; rfl
  | x :: xs => by rw [e_ast_Stmt_l, e_ast_Stmt_l_eq xs]; rfl
theorem e_ast_Arm_eq (x : ast_Arm) : e_ast_Arm x = [.str x.Tag, .str x.Var, .sl (List.map e_ast_Stmt x.Body)] := by
  cases x; rw [e_ast_Arm]; simp only [e_ast_Stmt_l_eq]; first | done | rfl
theorem e_ast_Arm_len (x : ast_Arm) : (e_ast_Arm x).length = 3 := by rw [e_ast_Arm_eq]; rfl
theorem e_ast_Stmt_eq (x : ast_Stmt) : e_ast_Stmt x = [.int .i64 x.Kind, .str x.Name, .str x.Tag, .int .i64 x.E.Kind, .int .i64 x.E.Num, .str x.E.Name, .sl (List.map e_ast_Expr x.E.Kids), .int .i64 x.C.Op, .int .i64 x.C.L.Kind, .int .i64 x.C.L.Num, .str x.C.L.Name, .sl (List.map e_ast_Expr x.C.L.Kids), .int .i64 x.C.R.Kind, .int .i64 x.C.R.Num, .str x.C.R.Name, .sl (List.map e_ast_Expr x.C.R.Kids), .sl (List.map e_ast_Stmt x.Body), .sl (List.map e_ast_Stmt x.Else), .sl (List.map e_ast_Arm x.Arms)] := by
  cases x; rw [e_ast_Stmt]; simp only [e_ast_Arm_l_eq, e_ast_Stmt_l_eq]; first | done | rfl
theorem e_ast_Stmt_len (x : ast_Stmt) : (e_ast_Stmt x).length = 19 := by rw [e_ast_Stmt_eq]; rfl

def e_ast_Cond (x : ast_Cond) : List PV := [.int .i64 x.Op, .int .i64 x.L.Kind, .int .i64 x.L.Num, .str x.L.Name, .sl (List.map e_ast_Expr x.L.Kids), .int .i64 x.R.Kind, .int .i64 x.R.Num, .str x.R.Name, .sl (List.map e_ast_Expr x.R.Kids)]
def e_ast_Proc (x : ast_Proc) : List PV := [.str x.Name, .sl (List.map e_str x.Vars), .sl (List.map e_ast_Stmt x.Body)]
def e_ast_System (x : ast_System) : List PV := [.sl (List.map e_ast_Chan x.Chans), .sl (List.map e_ast_Rule x.Rules), .sl (List.map e_ast_Proc x.Procs)]
structure r02_System where
  Chans : (List r02_Chan)
  Rules : (List r02_Rule)
  Procs : (List r02_Proc)
def e_r01_Token (x : r01_Token) : List PV := [.int .i64 x.Kind, .str x.Text, .int .i64 x.Num, .int .i64 x.At]
structure r03_Reader where
  L : (List r01_Token)
  I : Int
  End : Int
  E : Int
  At : Int
def e_r03_Reader (x : r03_Reader) : List PV := [.sl (List.map e_r01_Token x.L), .int .i64 x.I, .int .i64 x.End, .int .i64 x.E, .int .i64 x.At]
def e_r02_Chan (x : r02_Chan) : List PV := [.str x.Name, .int .i64 x.Kind, .int .i64 x.Size, .str x.From, .str x.To, .sl (List.map e_str x.Tags)]
def e_r02_Move (x : r02_Move) : List PV := [.int .i64 x.From, .str x.Tag, .int .i64 x.To]
def e_r02_Rule (x : r02_Rule) : List PV := [.str x.Chan, .sl (List.map e_r02_Move x.Moves)]
mutual
def e_r02_Expr : r02_Expr → List PV
  | .mk z_Kind z_Num z_Name z_Kids => [.int .i64 z_Kind, .int .i64 z_Num, .str z_Name, .sl (e_r02_Expr_l z_Kids)]
def e_r02_Expr_l : List r02_Expr → List (List PV)
  | [] => []
  | x :: xs => e_r02_Expr x :: e_r02_Expr_l xs
end
theorem e_r02_Expr_l_eq : ∀ l, e_r02_Expr_l l = List.map e_r02_Expr l
  | [] => rfl
  | x :: xs => by rw [e_r02_Expr_l, e_r02_Expr_l_eq xs]; rfl
theorem e_r02_Expr_eq (x : r02_Expr) : e_r02_Expr x = [.int .i64 x.Kind, .int .i64 x.Num, .str x.Name, .sl (List.map e_r02_Expr x.Kids)] := by
  cases x; rw [e_r02_Expr, e_r02_Expr_l_eq]
def e_r02_Cond (x : r02_Cond) : List PV := [.int .i64 x.Op, .int .i64 x.L.Kind, .int .i64 x.L.Num, .str x.L.Name, .sl (List.map e_r02_Expr x.L.Kids), .int .i64 x.R.Kind, .int .i64 x.R.Num, .str x.R.Name, .sl (List.map e_r02_Expr x.R.Kids)]
mutual
def e_r02_Arm : r02_Arm → List PV
  | .mk z_Tag z_Var z_Body => [.str z_Tag, .str z_Var, .sl (e_r02_Stmt_l z_Body)]
def e_r02_Arm_l : List r02_Arm → List (List PV)
  | [] => []
  | x :: xs => e_r02_Arm x :: e_r02_Arm_l xs
def e_r02_Stmt : r02_Stmt → List PV
  | .mk z_Kind z_Name z_Tag z_E z_C z_Body z_Else z_Arms => [.int .i64 z_Kind, .str z_Name, .str z_Tag, .int .i64 z_E.Kind, .int .i64 z_E.Num, .str z_E.Name, .sl (List.map e_r02_Expr z_E.Kids), .int .i64 z_C.Op, .int .i64 z_C.L.Kind, .int .i64 z_C.L.Num, .str z_C.L.Name, .sl (List.map e_r02_Expr z_C.L.Kids), .int .i64 z_C.R.Kind, .int .i64 z_C.R.Num, .str z_C.R.Name, .sl (List.map e_r02_Expr z_C.R.Kids), .sl (e_r02_Stmt_l z_Body), .sl (e_r02_Stmt_l z_Else), .sl (e_r02_Arm_l z_Arms)]
def e_r02_Stmt_l : List r02_Stmt → List (List PV)
  | [] => []
  | x :: xs => e_r02_Stmt x :: e_r02_Stmt_l xs
end
theorem e_r02_Arm_l_eq : ∀ l, e_r02_Arm_l l = List.map e_r02_Arm l
  | [] => by rw [e_r02_Arm_l]; rfl
  | x :: xs => by rw [e_r02_Arm_l, e_r02_Arm_l_eq xs]; rfl
theorem e_r02_Stmt_l_eq : ∀ l, e_r02_Stmt_l l = List.map e_r02_Stmt l
  | [] => by rw [e_r02_Stmt_l]; rfl
  | x :: xs => by rw [e_r02_Stmt_l, e_r02_Stmt_l_eq xs]; rfl
theorem e_r02_Arm_eq (x : r02_Arm) : e_r02_Arm x = [.str x.Tag, .str x.Var, .sl (List.map e_r02_Stmt x.Body)] := by
  cases x; rw [e_r02_Arm]; simp only [e_r02_Stmt_l_eq]; first | done | rfl
theorem e_r02_Arm_len (x : r02_Arm) : (e_r02_Arm x).length = 3 := by rw [e_r02_Arm_eq]; rfl
theorem e_r02_Stmt_eq (x : r02_Stmt) : e_r02_Stmt x = [.int .i64 x.Kind, .str x.Name, .str x.Tag, .int .i64 x.E.Kind, .int .i64 x.E.Num, .str x.E.Name, .sl (List.map e_r02_Expr x.E.Kids), .int .i64 x.C.Op, .int .i64 x.C.L.Kind, .int .i64 x.C.L.Num, .str x.C.L.Name, .sl (List.map e_r02_Expr x.C.L.Kids), .int .i64 x.C.R.Kind, .int .i64 x.C.R.Num, .str x.C.R.Name, .sl (List.map e_r02_Expr x.C.R.Kids), .sl (List.map e_r02_Stmt x.Body), .sl (List.map e_r02_Stmt x.Else), .sl (List.map e_r02_Arm x.Arms)] := by
  cases x; rw [e_r02_Stmt]; simp only [e_r02_Arm_l_eq, e_r02_Stmt_l_eq]; first | done | rfl
theorem e_r02_Stmt_len (x : r02_Stmt) : (e_r02_Stmt x).length = 19 := by rw [e_r02_Stmt_eq]; rfl

def e_r02_Proc (x : r02_Proc) : List PV := [.str x.Name, .sl (List.map e_str x.Vars), .sl (List.map e_r02_Stmt x.Body)]
def e_r02_System (x : r02_System) : List PV := [.sl (List.map e_r02_Chan x.Chans), .sl (List.map e_r02_Rule x.Rules), .sl (List.map e_r02_Proc x.Procs)]

def f_ast_Expr (x : ast_Expr) : List PV := [.int .i64 x.Kind, .int .i64 x.Num, .str x.Name, .sl (List.map e_ast_Expr x.Kids)]
def f_ast_Stmt (x : ast_Stmt) : List PV := [.int .i64 x.Kind, .str x.Name, .str x.Tag, .int .i64 x.E.Kind, .int .i64 x.E.Num, .str x.E.Name, .sl (List.map e_ast_Expr x.E.Kids), .int .i64 x.C.Op, .int .i64 x.C.L.Kind, .int .i64 x.C.L.Num, .str x.C.L.Name, .sl (List.map e_ast_Expr x.C.L.Kids), .int .i64 x.C.R.Kind, .int .i64 x.C.R.Num, .str x.C.R.Name, .sl (List.map e_ast_Expr x.C.R.Kids), .sl (List.map e_ast_Stmt x.Body), .sl (List.map e_ast_Stmt x.Else), .sl (List.map e_ast_Arm x.Arms)]
def f_ast_Arm (x : ast_Arm) : List PV := [.str x.Tag, .str x.Var, .sl (List.map e_ast_Stmt x.Body)]
def f_r02_Expr (x : r02_Expr) : List PV := [.int .i64 x.Kind, .int .i64 x.Num, .str x.Name, .sl (List.map e_r02_Expr x.Kids)]
def f_r02_Stmt (x : r02_Stmt) : List PV := [.int .i64 x.Kind, .str x.Name, .str x.Tag, .int .i64 x.E.Kind, .int .i64 x.E.Num, .str x.E.Name, .sl (List.map e_r02_Expr x.E.Kids), .int .i64 x.C.Op, .int .i64 x.C.L.Kind, .int .i64 x.C.L.Num, .str x.C.L.Name, .sl (List.map e_r02_Expr x.C.L.Kids), .int .i64 x.C.R.Kind, .int .i64 x.C.R.Num, .str x.C.R.Name, .sl (List.map e_r02_Expr x.C.R.Kids), .sl (List.map e_r02_Stmt x.Body), .sl (List.map e_r02_Stmt x.Else), .sl (List.map e_r02_Arm x.Arms)]
def f_r02_Arm (x : r02_Arm) : List PV := [.str x.Tag, .str x.Var, .sl (List.map e_r02_Stmt x.Body)]
noncomputable def lex_letter (a0 : Int) : Option Bool :=
 if (decide (a0 ≥ 97)) then (some (decide (a0 ≤ 122)))
 else (some false)

def r_lex_letter (r : Bool) : List XV := [xB r]

def o_lex_letter (r : Bool) : Store := []

noncomputable def lex_digit (a0 : Int) : Option Bool :=
 if (decide (a0 ≥ 48)) then (some (decide (a0 ≤ 57)))
 else (some false)

def r_lex_digit (r : Bool) : List XV := [xB r]

def o_lex_digit (r : Bool) : Store := []

noncomputable def lex_run_l1 (a0 : ByteArray) (x1 : Int) : Option (Sum Int (Sum Int Int)) :=
 ((if (decide (x1 < (a0.size : Int))) then (bidx a0 x1 >>= fun v1 =>
 lex_letter v1 >>= fun v2 =>
 if v2 then (some true)
 else (bidx a0 x1 >>= fun v3 =>
 lex_digit v3 >>= fun v4 =>
 some v4))
 else (some false) : Option Bool) >>= fun j2 =>
 if j2 then (some (.inl (IntKind.i64.wrap (x1 + 1))))
 else (some (.inr (.inr x1))))

noncomputable def lex_run (a0 : ByteArray) : Option Int :=
 iter (lex_run_l1 a0) 0 >>= Sum.elim (fun _ => none) (fun j1 =>
 some j1)

def r_lex_run (r : Int) : List XV := [xI r]

def o_lex_run (r : Int) : Store := []

noncomputable def R_lex_run (r : Int) : Tg := .r false Tryz.f92.results.toList 0 (r_lex_run r) (o_lex_run r)

noncomputable def lex_Reserved (a0 : ByteArray) : Option Bool :=
 if (a0.toList == (ByteArray.mk #[99, 104, 97, 110]).toList) then (some true)
 else (if (a0.toList == (ByteArray.mk #[98, 108, 111, 99, 107]).toList) then (some true)
 else (if (a0.toList == (ByteArray.mk #[100, 114, 111, 112]).toList) then (some true)
 else (if (a0.toList == (ByteArray.mk #[108, 111, 115, 115, 121]).toList) then (some true)
 else (if (a0.toList == (ByteArray.mk #[102, 114, 111, 109]).toList) then (some true)
 else (if (a0.toList == (ByteArray.mk #[116, 111]).toList) then (some true)
 else (if (a0.toList == (ByteArray.mk #[114, 117, 108, 101]).toList) then (some true)
 else (if (a0.toList == (ByteArray.mk #[112, 114, 111, 99]).toList) then (some true)
 else (if (a0.toList == (ByteArray.mk #[118, 97, 114]).toList) then (some true)
 else (if (a0.toList == (ByteArray.mk #[105, 102]).toList) then (some true)
 else (if (a0.toList == (ByteArray.mk #[101, 108, 115, 101]).toList) then (some true)
 else (if (a0.toList == (ByteArray.mk #[119, 104, 105, 108, 101]).toList) then (some true)
 else (if (a0.toList == (ByteArray.mk #[115, 101, 110, 100]).toList) then (some true)
 else (if (a0.toList == (ByteArray.mk #[114, 101, 99, 118]).toList) then (some true)
 else (if (a0.toList == (ByteArray.mk #[97, 115, 115, 101, 114, 116]).toList) then (some true)
 else (if (a0.toList == (ByteArray.mk #[105, 110, 112, 117, 116]).toList) then (some true)
 else (some false))))))))))))))))

def r_lex_Reserved (r : Bool) : List XV := [xB r]

def o_lex_Reserved (r : Bool) : Store := []

noncomputable def lex_named (a0 : ByteArray) : Option (lex_Token × Int) :=
 if (decide ((a0.size : Int) > 12)) then (some ((lex_Token.mk 0 (ByteArray.mk #[]) 0 0), 3))
 else (lex_Reserved a0 >>= fun v1 =>
 if v1 then (some ((lex_Token.mk 4 a0 0 0), 0))
 else (some ((lex_Token.mk 1 a0 0 0), 0)))

def r_lex_named (r : (lex_Token × Int)) : List XV := [.agg (bs (e_lex_Token r.1)), xI r.2]

def o_lex_named (r : (lex_Token × Int)) : Store := []

def r_lexnum (r : (Int × Int)) : List XV := [xI r.1, xI r.2]

def r_ibyte (r : Int) : List XV := [xI r]

noncomputable def lex_sign (a0 : ByteArray) : Option Int :=
 ((if (decide ((a0.size : Int) > 1)) then (bidx a0 1 >>= fun v1 =>
 if (v1 == 61) then (bidx a0 0 >>= fun v2 =>
 ibyte (ByteArray.mk #[61, 33, 60, 62]) v2 >>= fun v3 =>
 some (decide (v3 ≥ 0)))
 else (some false))
 else (some false) : Option Bool) >>= fun j1 =>
 if j1 then (some 2)
 else (bidx a0 0 >>= fun v4 =>
 ibyte (ByteArray.mk #[123, 125, 40, 41, 59, 44, 46, 61, 60, 62, 43, 45, 42, 47, 37]) v4 >>= fun v5 =>
 if (decide (v5 ≥ 0)) then (some 1)
 else (some 0)))

def r_lex_sign (r : Int) : List XV := [xI r]

def o_lex_sign (r : Int) : Store := []

noncomputable def lex_word (a0 : ByteArray) : Option (lex_Token × Int) :=
 bidx a0 0 >>= fun v1 =>
 lex_letter v1 >>= fun v2 =>
 if v2 then (lex_run a0 >>= fun v3 =>
 ssub a0 0 v3 >>= fun v4 =>
 lex_named v4 >>= fun v5 =>
 some (v5.1, v5.2))
 else (bidx a0 0 >>= fun v6 =>
 lex_digit v6 >>= fun v7 =>
 if v7 then (lex_run a0 >>= fun v8 =>
 ssub a0 0 v8 >>= fun v9 =>
 lexnum v9 >>= fun v10 =>
 some ((lex_Token.mk 2 v9 v10.1 0), v10.2))
 else (lex_sign a0 >>= fun v11 =>
 if (v11 == 0) then (some ((lex_Token.mk 0 (ByteArray.mk #[]) 0 0), 2))
 else (ssub a0 0 v11 >>= fun v12 =>
 some ((lex_Token.mk 3 v12 0 0), 0))))

def r_lex_word (r : (lex_Token × Int)) : List XV := [.agg (bs (e_lex_Token r.1)), xI r.2]

def o_lex_word (r : (lex_Token × Int)) : Store := []

noncomputable def lex_Lex_l1 (a0 : ByteArray) (x1 : (Int × (List lex_Token))) : Option (Sum (Int × (List lex_Token)) (Sum ((List lex_Token) × Int × Int) (List lex_Token))) :=
 if (decide (x1.1 < (a0.size : Int))) then (((bidx a0 x1.1 >>= fun v1 =>
 if (v1 == 32) then (some true)
 else (bidx a0 x1.1 >>= fun v2 =>
 some (v2 == 10)) : Option Bool) >>= fun j2 =>
 if j2 then (some (.inl ((IntKind.i64.wrap (x1.1 + 1)), x1.2)))
 else (ssub a0 x1.1 (a0.size : Int) >>= fun v3 =>
 lex_word v3 >>= fun v4 =>
 if (v4.2 != 0) then (some (.inr (.inl ([], x1.1, v4.2))))
 else (app 40 x1.2 [(lex_Token.mk v4.1.Kind v4.1.Text v4.1.Num x1.1)] >>= fun v5 =>
 some (.inl ((IntKind.i64.wrap (x1.1 + (v4.1.Text.size : Int))), v5))))))
 else (some (.inr (.inr x1.2)))

noncomputable def lex_Lex (a0 : ByteArray) : Option ((List lex_Token) × Int × Int) :=
 iter (lex_Lex_l1 a0) (0, []) >>= Sum.elim (fun r => some r) (fun j1 =>
 if (decide ((j1.length : Int) > 2000)) then (some ([], (a0.size : Int), 4))
 else (some (j1, 0, 0)))

def r_lex_Lex (r : ((List lex_Token) × Int × Int)) : List XV := [xL (List.map e_lex_Token r.1), xI r.2.1, xI r.2.2]

def o_lex_Lex (r : ((List lex_Token) × Int × Int)) : Store := []

noncomputable def R_lex_Lex (r : ((List lex_Token) × Int × Int)) : Tg := .r false Tryz.f19.results.toList 0 (r_lex_Lex r) (o_lex_Lex r)

noncomputable def parse_reader_sees (a0 : parse_reader) (a1 : ByteArray) : Option Bool :=
 if (a0.f_e == 0) then (if (decide ((a0.f_l.length : Int) > 0)) then (idx a0.f_l 0 >>= fun v1 =>
 if (decide (v1.Kind ≥ 3)) then (idx a0.f_l 0 >>= fun v2 =>
 some (v2.Text.toList == a1.toList))
 else (some false))
 else (some false))
 else (some false)

def r_parse_reader_sees (r : Bool) : List XV := [xB r]

def o_parse_reader_sees (a0 : parse_reader) (r : Bool) : Store := [oB 71 (bs (e_parse_reader a0))]

noncomputable def parse_reader_skip (a0 : parse_reader) (a1 : ByteArray) : Option (parse_reader × Bool) :=
 parse_reader_sees a0 a1 >>= fun v1 =>
 if (!v1) then (some (a0, false))
 else (lsub a0.f_l 1 (a0.f_l.length : Int) >>= fun v2 =>
 some ((parse_reader.mk v2 a0.f_end a0.f_e a0.f_at a0.f_deep a0.f_in), true))

def r_parse_reader_skip (r : (parse_reader × Bool)) : List XV := [xB r.2]

def o_parse_reader_skip (r : (parse_reader × Bool)) : Store := [oB 71 (bs (e_parse_reader r.1))]

noncomputable def parse_reader_of (a0 : parse_reader) (a1 : Int) : Option Bool :=
 if (a0.f_e == 0) then (if (decide ((a0.f_l.length : Int) > 0)) then (idx a0.f_l 0 >>= fun v1 =>
 some (v1.Kind == a1))
 else (some false))
 else (some false)

def r_parse_reader_of (r : Bool) : List XV := [xB r]

def o_parse_reader_of (a0 : parse_reader) (r : Bool) : Store := [oB 71 (bs (e_parse_reader a0))]

noncomputable def parse_reader_fail (a0 : parse_reader) (a1 : Int) : Option parse_reader :=
 if (a0.f_e != 0) then (some a0)
 else (if (decide ((a0.f_l.length : Int) > 0)) then (idx a0.f_l 0 >>= fun v1 =>
 some (parse_reader.mk a0.f_l a0.f_end a1 v1.At a0.f_deep a0.f_in))
 else (some (parse_reader.mk a0.f_l a0.f_end a1 a0.f_end a0.f_deep a0.f_in)))

def r_parse_reader_fail (r : parse_reader) : List XV := []

def o_parse_reader_fail (r : parse_reader) : Store := [oB 71 (bs (e_parse_reader r))]

noncomputable def parse_reader_take (a0 : parse_reader) (a1 : Int) : Option (parse_reader × lex_Token) :=
 parse_reader_of a0 a1 >>= fun v1 =>
 if (!v1) then (parse_reader_fail a0 5 >>= fun v2 =>
 some (v2, (lex_Token.mk 0 (ByteArray.mk #[]) 0 0)))
 else (idx a0.f_l 0 >>= fun v3 =>
 lsub a0.f_l 1 (a0.f_l.length : Int) >>= fun v4 =>
 some ((parse_reader.mk v4 a0.f_end a0.f_e a0.f_at a0.f_deep a0.f_in), v3))

def r_parse_reader_take (r : (parse_reader × lex_Token)) : List XV := [.agg (bs (e_lex_Token r.2))]

def o_parse_reader_take (r : (parse_reader × lex_Token)) : Store := [oB 71 (bs (e_parse_reader r.1))]

noncomputable def parse_reader_name (a0 : parse_reader) : Option (parse_reader × ByteArray) :=
 parse_reader_take a0 1 >>= fun v1 =>
 some (v1.1, v1.2.Text)

def r_parse_reader_name (r : (parse_reader × ByteArray)) : List XV := [xS r.2]

def o_parse_reader_name (r : (parse_reader × ByteArray)) : Store := [oB 71 (bs (e_parse_reader r.1))]

noncomputable def slices_IndexFunc_string_string__parse_reader_skip_l1 (a0 : (List ByteArray)) (x1 : (Int × (List lex_Token) × Int × Int × Int × Int × Int)) : Option (Sum (Int × (List lex_Token) × Int × Int × Int × Int × Int) (Sum (parse_reader × Int) ((List lex_Token) × Int × Int × Int × Int × Int))) :=
 if (decide (x1.1 < (a0.length : Int))) then (idx a0 x1.1 >>= fun v1 =>
 parse_reader_skip (parse_reader.mk x1.2.1 x1.2.2.1 x1.2.2.2.1 x1.2.2.2.2.1 x1.2.2.2.2.2.1 x1.2.2.2.2.2.2) v1 >>= fun v2 =>
 if v2.2 then (some (.inr (.inl (v2.1, x1.1))))
 else (some (.inl ((IntKind.i64.wrap (x1.1 + 1)), v2.1.f_l, v2.1.f_end, v2.1.f_e, v2.1.f_at, v2.1.f_deep, v2.1.f_in))))
 else (some (.inr (.inr (x1.2.1, x1.2.2.1, x1.2.2.2.1, x1.2.2.2.2.1, x1.2.2.2.2.2.1, x1.2.2.2.2.2.2))))

noncomputable def slices_IndexFunc_string_string__parse_reader_skip (a0 : (List ByteArray)) (a1010 : parse_reader) : Option (parse_reader × Int) :=
 iter (slices_IndexFunc_string_string__parse_reader_skip_l1 a0) (0, a1010.f_l, a1010.f_end, a1010.f_e, a1010.f_at, a1010.f_deep, a1010.f_in) >>= Sum.elim (fun r => some r) (fun j1 =>
 some ((parse_reader.mk j1.1 j1.2.1 j1.2.2.1 j1.2.2.2.1 j1.2.2.2.2.1 j1.2.2.2.2.2), (-1)))

def r_slices_IndexFunc_string_string__parse_reader_skip (r : (parse_reader × Int)) : List XV := [xI r.2]

def o_slices_IndexFunc_string_string__parse_reader_skip (r : (parse_reader × Int)) : Store := [oB 71 (bs (e_parse_reader r.1))]

noncomputable def R_slices_IndexFunc_string_string__parse_reader_skip (r : (parse_reader × Int)) : Tg := .r false Tryz.f97.results.toList 1 (r_slices_IndexFunc_string_string__parse_reader_skip r) (o_slices_IndexFunc_string_string__parse_reader_skip r)

noncomputable def parse_reader_which (a0 : parse_reader) (a1 : (List ByteArray)) : Option (parse_reader × Int) :=
 slices_IndexFunc_string_string__parse_reader_skip a1 a0 >>= fun v1 =>
 some (v1.1, v1.2)

def r_parse_reader_which (r : (parse_reader × Int)) : List XV := [xI r.2]

def o_parse_reader_which (r : (parse_reader × Int)) : Store := [oB 71 (bs (e_parse_reader r.1))]

noncomputable def parse_reader_number (a0 : parse_reader) : Option (parse_reader × Int) :=
 parse_reader_take a0 2 >>= fun v1 =>
 some (v1.1, v1.2.Num)

def r_parse_reader_number (r : (parse_reader × Int)) : List XV := [xI r.2]

def o_parse_reader_number (r : (parse_reader × Int)) : Store := [oB 71 (bs (e_parse_reader r.1))]

noncomputable def parse_reader_must (a0 : parse_reader) (a1 : ByteArray) : Option parse_reader :=
 parse_reader_skip a0 a1 >>= fun v1 =>
 if (!v1.2) then (parse_reader_fail v1.1 5 >>= fun v2 =>
 some v2)
 else (some v1.1)

def r_parse_reader_must (r : parse_reader) : List XV := []

def o_parse_reader_must (r : parse_reader) : Store := [oB 71 (bs (e_parse_reader r))]

noncomputable def parse_reader_channel_l1 (x1 : ((List lex_Token) × Int × Int × Int × Int × Int × (List ByteArray))) : Option (Sum ((List lex_Token) × Int × Int × Int × Int × Int × (List ByteArray)) (Sum (parse_reader × ast_Chan) ((List lex_Token) × Int × Int × Int × Int × Int × (List ByteArray)))) :=
 parse_reader_skip (parse_reader.mk x1.1 x1.2.1 x1.2.2.1 x1.2.2.2.1 x1.2.2.2.2.1 x1.2.2.2.2.2.1) (ByteArray.mk #[44]) >>= fun v12 =>
 if v12.2 then (parse_reader_name v12.1 >>= fun v13 =>
 app 16 x1.2.2.2.2.2.2 [v13.2] >>= fun v14 =>
 some (.inl (v13.1.f_l, v13.1.f_end, v13.1.f_e, v13.1.f_at, v13.1.f_deep, v13.1.f_in, v14)))
 else (some (.inr (.inr (v12.1.f_l, v12.1.f_end, v12.1.f_e, v12.1.f_at, v12.1.f_deep, v12.1.f_in, x1.2.2.2.2.2.2))))

noncomputable def parse_reader_channel (a0 : parse_reader) : Option (parse_reader × ast_Chan) :=
 parse_reader_name a0 >>= fun v1 =>
 parse_reader_which v1.1 [(ByteArray.mk #[98, 108, 111, 99, 107]), (ByteArray.mk #[100, 114, 111, 112]), (ByteArray.mk #[108, 111, 115, 115, 121])] >>= fun v2 =>
 if (decide (v2.2 < 0)) then (parse_reader_fail v2.1 5 >>= fun v3 =>
 some (v3, (ast_Chan.mk v1.2 v2.2 0 (ByteArray.mk #[]) (ByteArray.mk #[]) [])))
 else (parse_reader_number v2.1 >>= fun v4 =>
 parse_reader_must v4.1 (ByteArray.mk #[102, 114, 111, 109]) >>= fun v5 =>
 parse_reader_name v5 >>= fun v6 =>
 parse_reader_must v6.1 (ByteArray.mk #[116, 111]) >>= fun v7 =>
 parse_reader_name v7 >>= fun v8 =>
 parse_reader_must v8.1 (ByteArray.mk #[123]) >>= fun v9 =>
 parse_reader_name v9 >>= fun v10 =>
 app 16 [] [v10.2] >>= fun v11 =>
 iter (parse_reader_channel_l1) (v10.1.f_l, v10.1.f_end, v10.1.f_e, v10.1.f_at, v10.1.f_deep, v10.1.f_in, v11) >>= Sum.elim (fun _ => none) (fun j1 =>
 parse_reader_must (parse_reader.mk j1.1 j1.2.1 j1.2.2.1 j1.2.2.2.1 j1.2.2.2.2.1 j1.2.2.2.2.2.1) (ByteArray.mk #[125]) >>= fun v15 =>
 parse_reader_must v15 (ByteArray.mk #[59]) >>= fun v16 =>
 some (v16, (ast_Chan.mk v1.2 v2.2 v4.2 v6.2 v8.2 j1.2.2.2.2.2.2))))

def r_parse_reader_channel (r : (parse_reader × ast_Chan)) : List XV := [.agg (bs (e_ast_Chan r.2))]

def o_parse_reader_channel (r : (parse_reader × ast_Chan)) : Store := [oB 71 (bs (e_parse_reader r.1))]

noncomputable def R_parse_reader_channel (r : (parse_reader × ast_Chan)) : Tg := .r false Tryz.f21.results.toList 1 (r_parse_reader_channel r) (o_parse_reader_channel r)

noncomputable def parse_reader_rule_l1 (x1 : ((List lex_Token) × Int × Int × Int × Int × Int × (List ast_Move))) : Option (Sum ((List lex_Token) × Int × Int × Int × Int × Int × (List ast_Move)) (Sum (parse_reader × ast_Rule) ((List lex_Token) × Int × Int × Int × Int × Int × (List ast_Move)))) :=
 ((if (x1.2.2.1 == 0) then (parse_reader_sees (parse_reader.mk x1.1 x1.2.1 x1.2.2.1 x1.2.2.2.1 x1.2.2.2.2.1 x1.2.2.2.2.2.1) (ByteArray.mk #[125]) >>= fun v3 =>
 some (!v3))
 else (some false) : Option Bool) >>= fun j2 =>
 if j2 then (parse_reader_number (parse_reader.mk x1.1 x1.2.1 x1.2.2.1 x1.2.2.2.1 x1.2.2.2.2.1 x1.2.2.2.2.2.1) >>= fun v4 =>
 parse_reader_name v4.1 >>= fun v5 =>
 parse_reader_number v5.1 >>= fun v6 =>
 parse_reader_must v6.1 (ByteArray.mk #[59]) >>= fun v7 =>
 app 32 x1.2.2.2.2.2.2 [(ast_Move.mk v4.2 v5.2 v6.2)] >>= fun v8 =>
 some (.inl (v7.f_l, v7.f_end, v7.f_e, v7.f_at, v7.f_deep, v7.f_in, v8)))
 else (some (.inr (.inr (x1.1, x1.2.1, x1.2.2.1, x1.2.2.2.1, x1.2.2.2.2.1, x1.2.2.2.2.2.1, x1.2.2.2.2.2.2)))))

noncomputable def parse_reader_rule (a0 : parse_reader) : Option (parse_reader × ast_Rule) :=
 parse_reader_name a0 >>= fun v1 =>
 parse_reader_must v1.1 (ByteArray.mk #[123]) >>= fun v2 =>
 iter (parse_reader_rule_l1) (v2.f_l, v2.f_end, v2.f_e, v2.f_at, v2.f_deep, v2.f_in, []) >>= Sum.elim (fun _ => none) (fun j1 =>
 parse_reader_must (parse_reader.mk j1.1 j1.2.1 j1.2.2.1 j1.2.2.2.1 j1.2.2.2.2.1 j1.2.2.2.2.2.1) (ByteArray.mk #[125]) >>= fun v9 =>
 some (v9, (ast_Rule.mk v1.2 j1.2.2.2.2.2.2)))

def r_parse_reader_rule (r : (parse_reader × ast_Rule)) : List XV := [.agg (bs (e_ast_Rule r.2))]

def o_parse_reader_rule (r : (parse_reader × ast_Rule)) : Store := [oB 71 (bs (e_parse_reader r.1))]

noncomputable def R_parse_reader_rule (r : (parse_reader × ast_Rule)) : Tg := .r false Tryz.f22.results.toList 1 (r_parse_reader_rule r) (o_parse_reader_rule r)

noncomputable def parse_reader_opens (a0 : parse_reader) : Option (parse_reader × Bool) :=
 if (a0.f_deep == 24) then (parse_reader_fail a0 6 >>= fun v1 =>
 some (v1, false))
 else (some ((parse_reader.mk a0.f_l a0.f_end a0.f_e a0.f_at (IntKind.i64.wrap (a0.f_deep + 1)) a0.f_in), true))

def r_parse_reader_opens (r : (parse_reader × Bool)) : List XV := [xB r.2]

def o_parse_reader_opens (r : (parse_reader × Bool)) : Store := [oB 71 (bs (e_parse_reader r.1))]

def r_parse_reader_expr (r : (parse_reader × ast_Expr)) : List XV := [.agg (bs (f_ast_Expr r.2))]

def o_parse_reader_expr (r : (parse_reader × ast_Expr)) : Store := [oB 71 (bs (e_parse_reader r.1))]

noncomputable def parse_reader_chain_parse_reader_term_l1 (F_parse_reader_expr : parse_reader → Option (parse_reader × ast_Expr)) (F_parse_reader_chain_parse_reader_term : parse_reader → (List ByteArray) → Int → Option (parse_reader × ast_Expr)) (F_parse_reader_term : parse_reader → Option (parse_reader × ast_Expr)) (F_parse_reader_chain_parse_reader_factor : parse_reader → (List ByteArray) → Int → Option (parse_reader × ast_Expr)) (F_parse_reader_factor : parse_reader → Option (parse_reader × ast_Expr)) (F_parse_reader_negated : parse_reader → Option (parse_reader × ast_Expr)) (F_parse_reader_parens : parse_reader → Option (parse_reader × ast_Expr)) (a2 : (List ByteArray)) (a3 : Int) (x1 : ((List lex_Token) × Int × Int × Int × Int × Int × Int × Int × ByteArray × (List ast_Expr))) : Option (Sum ((List lex_Token) × Int × Int × Int × Int × Int × Int × Int × ByteArray × (List ast_Expr)) (Sum (parse_reader × ast_Expr) ((List lex_Token) × Int × Int × Int × Int × Int × Int × Int × ByteArray × (List ast_Expr)))) :=
 if (x1.2.2.1 == 0) then (parse_reader_which (parse_reader.mk x1.1 x1.2.1 x1.2.2.1 x1.2.2.2.1 x1.2.2.2.2.1 x1.2.2.2.2.2.1) a2 >>= fun v2 =>
 if (decide (v2.2 < 0)) then (some (.inr (.inr (v2.1.f_l, v2.1.f_end, v2.1.f_e, v2.1.f_at, v2.1.f_deep, v2.1.f_in, x1.2.2.2.2.2.2.1, x1.2.2.2.2.2.2.2.1, x1.2.2.2.2.2.2.2.2.1, x1.2.2.2.2.2.2.2.2.2))))
 else (F_parse_reader_term v2.1 >>= fun v3 =>
 some (.inl (v3.1.f_l, v3.1.f_end, v3.1.f_e, v3.1.f_at, v3.1.f_deep, v3.1.f_in, (IntKind.i64.wrap (a3 + v2.2)), 0, (ByteArray.mk #[]), [(ast_Expr.mk x1.2.2.2.2.2.2.1 x1.2.2.2.2.2.2.2.1 x1.2.2.2.2.2.2.2.2.1 x1.2.2.2.2.2.2.2.2.2), v3.2]))))
 else (some (.inr (.inr (x1.1, x1.2.1, x1.2.2.1, x1.2.2.2.1, x1.2.2.2.2.1, x1.2.2.2.2.2.1, x1.2.2.2.2.2.2.1, x1.2.2.2.2.2.2.2.1, x1.2.2.2.2.2.2.2.2.1, x1.2.2.2.2.2.2.2.2.2))))

def r_parse_reader_chain_parse_reader_term (r : (parse_reader × ast_Expr)) : List XV := [.agg (bs (f_ast_Expr r.2))]

def o_parse_reader_chain_parse_reader_term (r : (parse_reader × ast_Expr)) : Store := [oB 71 (bs (e_parse_reader r.1))]

noncomputable def R_parse_reader_chain_parse_reader_term (r : (parse_reader × ast_Expr)) : Tg := .r false Tryz.f160.results.toList 1 (r_parse_reader_chain_parse_reader_term r) (o_parse_reader_chain_parse_reader_term r)

def r_parse_reader_term (r : (parse_reader × ast_Expr)) : List XV := [.agg (bs (f_ast_Expr r.2))]

def o_parse_reader_term (r : (parse_reader × ast_Expr)) : Store := [oB 71 (bs (e_parse_reader r.1))]

noncomputable def parse_reader_chain_parse_reader_factor_l1 (F_parse_reader_expr : parse_reader → Option (parse_reader × ast_Expr)) (F_parse_reader_chain_parse_reader_term : parse_reader → (List ByteArray) → Int → Option (parse_reader × ast_Expr)) (F_parse_reader_term : parse_reader → Option (parse_reader × ast_Expr)) (F_parse_reader_chain_parse_reader_factor : parse_reader → (List ByteArray) → Int → Option (parse_reader × ast_Expr)) (F_parse_reader_factor : parse_reader → Option (parse_reader × ast_Expr)) (F_parse_reader_negated : parse_reader → Option (parse_reader × ast_Expr)) (F_parse_reader_parens : parse_reader → Option (parse_reader × ast_Expr)) (a2 : (List ByteArray)) (a3 : Int) (x1 : ((List lex_Token) × Int × Int × Int × Int × Int × Int × Int × ByteArray × (List ast_Expr))) : Option (Sum ((List lex_Token) × Int × Int × Int × Int × Int × Int × Int × ByteArray × (List ast_Expr)) (Sum (parse_reader × ast_Expr) ((List lex_Token) × Int × Int × Int × Int × Int × Int × Int × ByteArray × (List ast_Expr)))) :=
 if (x1.2.2.1 == 0) then (parse_reader_which (parse_reader.mk x1.1 x1.2.1 x1.2.2.1 x1.2.2.2.1 x1.2.2.2.2.1 x1.2.2.2.2.2.1) a2 >>= fun v2 =>
 if (decide (v2.2 < 0)) then (some (.inr (.inr (v2.1.f_l, v2.1.f_end, v2.1.f_e, v2.1.f_at, v2.1.f_deep, v2.1.f_in, x1.2.2.2.2.2.2.1, x1.2.2.2.2.2.2.2.1, x1.2.2.2.2.2.2.2.2.1, x1.2.2.2.2.2.2.2.2.2))))
 else (F_parse_reader_factor v2.1 >>= fun v3 =>
 some (.inl (v3.1.f_l, v3.1.f_end, v3.1.f_e, v3.1.f_at, v3.1.f_deep, v3.1.f_in, (IntKind.i64.wrap (a3 + v2.2)), 0, (ByteArray.mk #[]), [(ast_Expr.mk x1.2.2.2.2.2.2.1 x1.2.2.2.2.2.2.2.1 x1.2.2.2.2.2.2.2.2.1 x1.2.2.2.2.2.2.2.2.2), v3.2]))))
 else (some (.inr (.inr (x1.1, x1.2.1, x1.2.2.1, x1.2.2.2.1, x1.2.2.2.2.1, x1.2.2.2.2.2.1, x1.2.2.2.2.2.2.1, x1.2.2.2.2.2.2.2.1, x1.2.2.2.2.2.2.2.2.1, x1.2.2.2.2.2.2.2.2.2))))

def r_parse_reader_chain_parse_reader_factor (r : (parse_reader × ast_Expr)) : List XV := [.agg (bs (f_ast_Expr r.2))]

def o_parse_reader_chain_parse_reader_factor (r : (parse_reader × ast_Expr)) : Store := [oB 71 (bs (e_parse_reader r.1))]

noncomputable def R_parse_reader_chain_parse_reader_factor (r : (parse_reader × ast_Expr)) : Tg := .r false Tryz.f160.results.toList 1 (r_parse_reader_chain_parse_reader_factor r) (o_parse_reader_chain_parse_reader_factor r)

def r_parse_reader_factor (r : (parse_reader × ast_Expr)) : List XV := [.agg (bs (f_ast_Expr r.2))]

def o_parse_reader_factor (r : (parse_reader × ast_Expr)) : Store := [oB 71 (bs (e_parse_reader r.1))]

def r_parse_reader_negated (r : (parse_reader × ast_Expr)) : List XV := [.agg (bs (f_ast_Expr r.2))]

def o_parse_reader_negated (r : (parse_reader × ast_Expr)) : Store := [oB 71 (bs (e_parse_reader r.1))]

def r_parse_reader_parens (r : (parse_reader × ast_Expr)) : List XV := [.agg (bs (f_ast_Expr r.2))]

def o_parse_reader_parens (r : (parse_reader × ast_Expr)) : Store := [oB 71 (bs (e_parse_reader r.1))]

mutual
noncomputable def parse_reader_exprN : Nat → parse_reader → Option (parse_reader × ast_Expr)
  | 0, _ => none
  | n + 1, a0 => (parse_reader_chain_parse_reader_termN n) a0 [(ByteArray.mk #[43]), (ByteArray.mk #[45])] 4 >>= fun v1 =>
 some (v1.1, v1.2)
noncomputable def parse_reader_chain_parse_reader_termN : Nat → parse_reader → (List ByteArray) → Int → Option (parse_reader × ast_Expr)
  | 0, _, _, _ => none
  | n + 1, a0, a2, a3 => (parse_reader_termN n) a0 >>= fun v1 =>
 iter (parse_reader_chain_parse_reader_term_l1 (parse_reader_exprN n) (parse_reader_chain_parse_reader_termN n) (parse_reader_termN n) (parse_reader_chain_parse_reader_factorN n) (parse_reader_factorN n) (parse_reader_negatedN n) (parse_reader_parensN n) a2 a3) (v1.1.f_l, v1.1.f_end, v1.1.f_e, v1.1.f_at, v1.1.f_deep, v1.1.f_in, v1.2.Kind, v1.2.Num, v1.2.Name, v1.2.Kids) >>= Sum.elim (fun _ => none) (fun j1 =>
 some ((parse_reader.mk j1.1 j1.2.1 j1.2.2.1 j1.2.2.2.1 j1.2.2.2.2.1 j1.2.2.2.2.2.1), (ast_Expr.mk j1.2.2.2.2.2.2.1 j1.2.2.2.2.2.2.2.1 j1.2.2.2.2.2.2.2.2.1 j1.2.2.2.2.2.2.2.2.2)))
noncomputable def parse_reader_termN : Nat → parse_reader → Option (parse_reader × ast_Expr)
  | 0, _ => none
  | n + 1, a0 => (parse_reader_chain_parse_reader_factorN n) a0 [(ByteArray.mk #[42]), (ByteArray.mk #[47]), (ByteArray.mk #[37])] 6 >>= fun v1 =>
 some (v1.1, v1.2)
noncomputable def parse_reader_chain_parse_reader_factorN : Nat → parse_reader → (List ByteArray) → Int → Option (parse_reader × ast_Expr)
  | 0, _, _, _ => none
  | n + 1, a0, a2, a3 => (parse_reader_factorN n) a0 >>= fun v1 =>
 iter (parse_reader_chain_parse_reader_factor_l1 (parse_reader_exprN n) (parse_reader_chain_parse_reader_termN n) (parse_reader_termN n) (parse_reader_chain_parse_reader_factorN n) (parse_reader_factorN n) (parse_reader_negatedN n) (parse_reader_parensN n) a2 a3) (v1.1.f_l, v1.1.f_end, v1.1.f_e, v1.1.f_at, v1.1.f_deep, v1.1.f_in, v1.2.Kind, v1.2.Num, v1.2.Name, v1.2.Kids) >>= Sum.elim (fun _ => none) (fun j1 =>
 some ((parse_reader.mk j1.1 j1.2.1 j1.2.2.1 j1.2.2.2.1 j1.2.2.2.2.1 j1.2.2.2.2.2.1), (ast_Expr.mk j1.2.2.2.2.2.2.1 j1.2.2.2.2.2.2.2.1 j1.2.2.2.2.2.2.2.2.1 j1.2.2.2.2.2.2.2.2.2)))
noncomputable def parse_reader_factorN : Nat → parse_reader → Option (parse_reader × ast_Expr)
  | 0, _ => none
  | n + 1, a0 => parse_reader_sees a0 (ByteArray.mk #[45]) >>= fun v1 =>
 if v1 then ((parse_reader_negatedN n) a0 >>= fun v2 =>
 some (v2.1, v2.2))
 else (parse_reader_sees a0 (ByteArray.mk #[40]) >>= fun v3 =>
 if v3 then ((parse_reader_parensN n) a0 >>= fun v4 =>
 some (v4.1, v4.2))
 else (parse_reader_of a0 2 >>= fun v5 =>
 if v5 then (parse_reader_number a0 >>= fun v6 =>
 some (v6.1, (ast_Expr.mk 1 v6.2 (ByteArray.mk #[]) [])))
 else (parse_reader_name a0 >>= fun v7 =>
 some (v7.1, (ast_Expr.mk 2 0 v7.2 [])))))
noncomputable def parse_reader_negatedN : Nat → parse_reader → Option (parse_reader × ast_Expr)
  | 0, _ => none
  | n + 1, a0 => parse_reader_opens a0 >>= fun v1 =>
 if (!v1.2) then (some (v1.1, (ast_Expr.mk 0 0 (ByteArray.mk #[]) [])))
 else (parse_reader_must v1.1 (ByteArray.mk #[45]) >>= fun v2 =>
 (parse_reader_factorN n) v2 >>= fun v3 =>
 some ((parse_reader.mk v3.1.f_l v3.1.f_end v3.1.f_e v3.1.f_at (IntKind.i64.wrap (v3.1.f_deep - 1)) v3.1.f_in), (ast_Expr.mk 3 0 (ByteArray.mk #[]) [v3.2])))
noncomputable def parse_reader_parensN : Nat → parse_reader → Option (parse_reader × ast_Expr)
  | 0, _ => none
  | n + 1, a0 => parse_reader_opens a0 >>= fun v1 =>
 if (!v1.2) then (some (v1.1, (ast_Expr.mk 0 0 (ByteArray.mk #[]) [])))
 else (parse_reader_must v1.1 (ByteArray.mk #[40]) >>= fun v2 =>
 (parse_reader_exprN n) v2 >>= fun v3 =>
 parse_reader_must v3.1 (ByteArray.mk #[41]) >>= fun v4 =>
 some ((parse_reader.mk v4.f_l v4.f_end v4.f_e v4.f_at (IntKind.i64.wrap (v4.f_deep - 1)) v4.f_in), v3.2))
end

noncomputable def parse_reader_expr (a0 : parse_reader) : Option (parse_reader × ast_Expr) := unf fun n => parse_reader_exprN n a0

noncomputable def parse_reader_send (a0 : parse_reader) : Option (parse_reader × ast_Stmt) :=
 parse_reader_name a0 >>= fun v1 =>
 parse_reader_must v1.1 (ByteArray.mk #[46]) >>= fun v2 =>
 parse_reader_name v2 >>= fun v3 =>
 parse_reader_must v3.1 (ByteArray.mk #[40]) >>= fun v4 =>
 parse_reader_expr v4 >>= fun v5 =>
 parse_reader_must v5.1 (ByteArray.mk #[41]) >>= fun v6 =>
 parse_reader_must v6 (ByteArray.mk #[59]) >>= fun v7 =>
 some (v7, (ast_Stmt.mk 4 v1.2 v3.2 v5.2 (ast_Cond.mk 0 (ast_Expr.mk 0 0 (ByteArray.mk #[]) []) (ast_Expr.mk 0 0 (ByteArray.mk #[]) [])) [] [] []))

def r_parse_reader_send (r : (parse_reader × ast_Stmt)) : List XV := [.agg (bs (f_ast_Stmt r.2))]

def o_parse_reader_send (r : (parse_reader × ast_Stmt)) : Store := [oB 71 (bs (e_parse_reader r.1))]

noncomputable def parse_reader_cond (a0 : parse_reader) : Option (parse_reader × ast_Cond) :=
 parse_reader_must a0 (ByteArray.mk #[40]) >>= fun v1 =>
 parse_reader_expr v1 >>= fun v2 =>
 parse_reader_which v2.1 [(ByteArray.mk #[61, 61]), (ByteArray.mk #[33, 61]), (ByteArray.mk #[60]), (ByteArray.mk #[60, 61]), (ByteArray.mk #[62]), (ByteArray.mk #[62, 61])] >>= fun v3 =>
 if (decide (v3.2 < 0)) then (parse_reader_fail v3.1 5 >>= fun v4 =>
 some (v4, (ast_Cond.mk 0 v2.2 (ast_Expr.mk 0 0 (ByteArray.mk #[]) []))))
 else (parse_reader_expr v3.1 >>= fun v5 =>
 parse_reader_must v5.1 (ByteArray.mk #[41]) >>= fun v6 =>
 some (v6, (ast_Cond.mk (IntKind.i64.wrap (1 + v3.2)) v2.2 v5.2)))

def r_parse_reader_cond (r : (parse_reader × ast_Cond)) : List XV := [.agg (bs (e_ast_Cond r.2))]

def o_parse_reader_cond (r : (parse_reader × ast_Cond)) : Store := [oB 71 (bs (e_parse_reader r.1))]

noncomputable def parse_reader_assert (a0 : parse_reader) : Option (parse_reader × ast_Stmt) :=
 parse_reader_cond a0 >>= fun v1 =>
 parse_reader_must v1.1 (ByteArray.mk #[59]) >>= fun v2 =>
 some (v2, (ast_Stmt.mk 6 (ByteArray.mk #[]) (ByteArray.mk #[]) (ast_Expr.mk 0 0 (ByteArray.mk #[]) []) v1.2 [] [] []))

def r_parse_reader_assert (r : (parse_reader × ast_Stmt)) : List XV := [.agg (bs (f_ast_Stmt r.2))]

def o_parse_reader_assert (r : (parse_reader × ast_Stmt)) : Store := [oB 71 (bs (e_parse_reader r.1))]

noncomputable def parse_reader_input (a0 : parse_reader) : Option (parse_reader × ast_Stmt) :=
 parse_reader_name a0 >>= fun v1 =>
 parse_reader_must v1.1 (ByteArray.mk #[59]) >>= fun v2 =>
 some (v2, (ast_Stmt.mk 7 v1.2 (ByteArray.mk #[]) (ast_Expr.mk 0 0 (ByteArray.mk #[]) []) (ast_Cond.mk 0 (ast_Expr.mk 0 0 (ByteArray.mk #[]) []) (ast_Expr.mk 0 0 (ByteArray.mk #[]) [])) [] [] []))

def r_parse_reader_input (r : (parse_reader × ast_Stmt)) : List XV := [.agg (bs (f_ast_Stmt r.2))]

def o_parse_reader_input (r : (parse_reader × ast_Stmt)) : Store := [oB 71 (bs (e_parse_reader r.1))]

noncomputable def parse_reader_assign (a0 : parse_reader) : Option (parse_reader × ast_Stmt) :=
 parse_reader_name a0 >>= fun v1 =>
 parse_reader_must v1.1 (ByteArray.mk #[61]) >>= fun v2 =>
 parse_reader_expr v2 >>= fun v3 =>
 parse_reader_must v3.1 (ByteArray.mk #[59]) >>= fun v4 =>
 some (v4, (ast_Stmt.mk 1 v1.2 (ByteArray.mk #[]) v3.2 (ast_Cond.mk 0 (ast_Expr.mk 0 0 (ByteArray.mk #[]) []) (ast_Expr.mk 0 0 (ByteArray.mk #[]) [])) [] [] []))

def r_parse_reader_assign (r : (parse_reader × ast_Stmt)) : List XV := [.agg (bs (f_ast_Stmt r.2))]

def o_parse_reader_assign (r : (parse_reader × ast_Stmt)) : Store := [oB 71 (bs (e_parse_reader r.1))]

noncomputable def parse_reader_stmts_l1 (F_parse_reader_stmts : parse_reader → Option (parse_reader × (List ast_Stmt))) (F_parse_reader_stmt : parse_reader → Option (parse_reader × ast_Stmt × Bool)) (F_parse_reader_conditional : parse_reader → Option (parse_reader × ast_Stmt)) (F_parse_reader_loop : parse_reader → Option (parse_reader × ast_Stmt)) (F_parse_reader_recv : parse_reader → Option (parse_reader × ast_Stmt)) (F_parse_reader_block : parse_reader → Option (parse_reader × (List ast_Stmt))) (F_parse_reader_arm : parse_reader → Option (parse_reader × ast_Arm)) (x1 : ((List lex_Token) × Int × Int × Int × Int × Int × (List ast_Stmt))) : Option (Sum ((List lex_Token) × Int × Int × Int × Int × Int × (List ast_Stmt)) (Sum (parse_reader × (List ast_Stmt)) Unit)) :=
 F_parse_reader_stmt (parse_reader.mk x1.1 x1.2.1 x1.2.2.1 x1.2.2.2.1 x1.2.2.2.2.1 x1.2.2.2.2.2.1) >>= fun v1 =>
 if (!v1.2.2) then (some (.inr (.inl (v1.1, x1.2.2.2.2.2.2))))
 else (app 288 x1.2.2.2.2.2.2 [v1.2.1] >>= fun v2 =>
 some (.inl (v1.1.f_l, v1.1.f_end, v1.1.f_e, v1.1.f_at, v1.1.f_deep, v1.1.f_in, v2)))

def r_parse_reader_stmts (r : (parse_reader × (List ast_Stmt))) : List XV := [xL (List.map e_ast_Stmt r.2)]

def o_parse_reader_stmts (r : (parse_reader × (List ast_Stmt))) : Store := [oB 71 (bs (e_parse_reader r.1))]

noncomputable def R_parse_reader_stmts (r : (parse_reader × (List ast_Stmt))) : Tg := .r false Tryz.f61.results.toList 1 (r_parse_reader_stmts r) (o_parse_reader_stmts r)

def r_parse_reader_stmt (r : (parse_reader × ast_Stmt × Bool)) : List XV := [.agg (bs (f_ast_Stmt r.2.1)), xB r.2.2]

def o_parse_reader_stmt (r : (parse_reader × ast_Stmt × Bool)) : Store := [oB 71 (bs (e_parse_reader r.1))]

def r_parse_reader_conditional (r : (parse_reader × ast_Stmt)) : List XV := [.agg (bs (f_ast_Stmt r.2))]

def o_parse_reader_conditional (r : (parse_reader × ast_Stmt)) : Store := [oB 71 (bs (e_parse_reader r.1))]

def r_parse_reader_loop (r : (parse_reader × ast_Stmt)) : List XV := [.agg (bs (f_ast_Stmt r.2))]

def o_parse_reader_loop (r : (parse_reader × ast_Stmt)) : Store := [oB 71 (bs (e_parse_reader r.1))]

noncomputable def parse_reader_recv_l1 (F_parse_reader_stmts : parse_reader → Option (parse_reader × (List ast_Stmt))) (F_parse_reader_stmt : parse_reader → Option (parse_reader × ast_Stmt × Bool)) (F_parse_reader_conditional : parse_reader → Option (parse_reader × ast_Stmt)) (F_parse_reader_loop : parse_reader → Option (parse_reader × ast_Stmt)) (F_parse_reader_recv : parse_reader → Option (parse_reader × ast_Stmt)) (F_parse_reader_block : parse_reader → Option (parse_reader × (List ast_Stmt))) (F_parse_reader_arm : parse_reader → Option (parse_reader × ast_Arm)) (x1 : ((List lex_Token) × Int × Int × Int × Int × Int × (List ast_Arm))) : Option (Sum ((List lex_Token) × Int × Int × Int × Int × Int × (List ast_Arm)) (Sum (parse_reader × ast_Stmt) ((List lex_Token) × Int × Int × Int × Int × Int × (List ast_Arm)))) :=
 ((if (x1.2.2.1 == 0) then (parse_reader_sees (parse_reader.mk x1.1 x1.2.1 x1.2.2.1 x1.2.2.2.1 x1.2.2.2.2.1 x1.2.2.2.2.2.1) (ByteArray.mk #[125]) >>= fun v5 =>
 some (!v5))
 else (some false) : Option Bool) >>= fun j2 =>
 if j2 then (F_parse_reader_arm (parse_reader.mk x1.1 x1.2.1 x1.2.2.1 x1.2.2.2.1 x1.2.2.2.2.1 x1.2.2.2.2.2.1) >>= fun v6 =>
 app 56 x1.2.2.2.2.2.2 [v6.2] >>= fun v7 =>
 some (.inl (v6.1.f_l, v6.1.f_end, v6.1.f_e, v6.1.f_at, v6.1.f_deep, v6.1.f_in, v7)))
 else (some (.inr (.inr (x1.1, x1.2.1, x1.2.2.1, x1.2.2.2.1, x1.2.2.2.2.1, x1.2.2.2.2.2.1, x1.2.2.2.2.2.2)))))

def r_parse_reader_recv (r : (parse_reader × ast_Stmt)) : List XV := [.agg (bs (f_ast_Stmt r.2))]

def o_parse_reader_recv (r : (parse_reader × ast_Stmt)) : Store := [oB 71 (bs (e_parse_reader r.1))]

noncomputable def R_parse_reader_recv (r : (parse_reader × ast_Stmt)) : Tg := .r false Tryz.f119.results.toList 1 (r_parse_reader_recv r) (o_parse_reader_recv r)

def r_parse_reader_block (r : (parse_reader × (List ast_Stmt))) : List XV := [xL (List.map e_ast_Stmt r.2)]

def o_parse_reader_block (r : (parse_reader × (List ast_Stmt))) : Store := [oB 71 (bs (e_parse_reader r.1))]

def r_parse_reader_arm (r : (parse_reader × ast_Arm)) : List XV := [.agg (bs (f_ast_Arm r.2))]

def o_parse_reader_arm (r : (parse_reader × ast_Arm)) : Store := [oB 71 (bs (e_parse_reader r.1))]

mutual
noncomputable def parse_reader_stmtsN : Nat → parse_reader → Option (parse_reader × (List ast_Stmt))
  | 0, _ => none
  | n + 1, a0 => iter (parse_reader_stmts_l1 (parse_reader_stmtsN n) (parse_reader_stmtN n) (parse_reader_conditionalN n) (parse_reader_loopN n) (parse_reader_recvN n) (parse_reader_blockN n) (parse_reader_armN n)) (a0.f_l, a0.f_end, a0.f_e, a0.f_at, a0.f_deep, a0.f_in, []) >>= Sum.elim (fun r => some r) (fun j1 =>
 none)
noncomputable def parse_reader_stmtN : Nat → parse_reader → Option (parse_reader × ast_Stmt × Bool)
  | 0, _ => none
  | n + 1, a0 => parse_reader_skip a0 (ByteArray.mk #[105, 102]) >>= fun v1 =>
 if v1.2 then ((parse_reader_conditionalN n) v1.1 >>= fun v2 =>
 some (v2.1, v2.2, true))
 else (parse_reader_skip v1.1 (ByteArray.mk #[119, 104, 105, 108, 101]) >>= fun v3 =>
 if v3.2 then ((parse_reader_loopN n) v3.1 >>= fun v4 =>
 some (v4.1, v4.2, true))
 else (parse_reader_skip v3.1 (ByteArray.mk #[115, 101, 110, 100]) >>= fun v5 =>
 if v5.2 then (parse_reader_send v5.1 >>= fun v6 =>
 some (v6.1, v6.2, true))
 else (parse_reader_skip v5.1 (ByteArray.mk #[114, 101, 99, 118]) >>= fun v7 =>
 if v7.2 then ((parse_reader_recvN n) v7.1 >>= fun v8 =>
 some (v8.1, v8.2, true))
 else (parse_reader_skip v7.1 (ByteArray.mk #[97, 115, 115, 101, 114, 116]) >>= fun v9 =>
 if v9.2 then (parse_reader_assert v9.1 >>= fun v10 =>
 some (v10.1, v10.2, true))
 else (parse_reader_skip v9.1 (ByteArray.mk #[105, 110, 112, 117, 116]) >>= fun v11 =>
 if v11.2 then (parse_reader_input v11.1 >>= fun v12 =>
 some (v12.1, v12.2, true))
 else (parse_reader_of v11.1 1 >>= fun v13 =>
 if v13 then (parse_reader_assign v11.1 >>= fun v14 =>
 some (v14.1, v14.2, true))
 else (some (v11.1, (ast_Stmt.mk 0 (ByteArray.mk #[]) (ByteArray.mk #[]) (ast_Expr.mk 0 0 (ByteArray.mk #[]) []) (ast_Cond.mk 0 (ast_Expr.mk 0 0 (ByteArray.mk #[]) []) (ast_Expr.mk 0 0 (ByteArray.mk #[]) [])) [] [] []), false))))))))
noncomputable def parse_reader_conditionalN : Nat → parse_reader → Option (parse_reader × ast_Stmt)
  | 0, _ => none
  | n + 1, a0 => parse_reader_cond a0 >>= fun v1 =>
 (parse_reader_blockN n) v1.1 >>= fun v2 =>
 parse_reader_skip v2.1 (ByteArray.mk #[101, 108, 115, 101]) >>= fun v3 =>
 if v3.2 then ((parse_reader_blockN n) v3.1 >>= fun v4 =>
 some (v4.1, (ast_Stmt.mk 2 (ByteArray.mk #[]) (ByteArray.mk #[]) (ast_Expr.mk 0 0 (ByteArray.mk #[]) []) v1.2 v2.2 v4.2 [])))
 else (some (v3.1, (ast_Stmt.mk 2 (ByteArray.mk #[]) (ByteArray.mk #[]) (ast_Expr.mk 0 0 (ByteArray.mk #[]) []) v1.2 v2.2 [] [])))
noncomputable def parse_reader_loopN : Nat → parse_reader → Option (parse_reader × ast_Stmt)
  | 0, _ => none
  | n + 1, a0 => parse_reader_cond a0 >>= fun v1 =>
 (parse_reader_blockN n) v1.1 >>= fun v2 =>
 some (v2.1, (ast_Stmt.mk 3 (ByteArray.mk #[]) (ByteArray.mk #[]) (ast_Expr.mk 0 0 (ByteArray.mk #[]) []) v1.2 v2.2 [] []))
noncomputable def parse_reader_recvN : Nat → parse_reader → Option (parse_reader × ast_Stmt)
  | 0, _ => none
  | n + 1, a0 => parse_reader_name a0 >>= fun v1 =>
 parse_reader_must v1.1 (ByteArray.mk #[123]) >>= fun v2 =>
 (parse_reader_armN n) v2 >>= fun v3 =>
 app 56 [] [v3.2] >>= fun v4 =>
 iter (parse_reader_recv_l1 (parse_reader_stmtsN n) (parse_reader_stmtN n) (parse_reader_conditionalN n) (parse_reader_loopN n) (parse_reader_recvN n) (parse_reader_blockN n) (parse_reader_armN n)) (v3.1.f_l, v3.1.f_end, v3.1.f_e, v3.1.f_at, v3.1.f_deep, v3.1.f_in, v4) >>= Sum.elim (fun _ => none) (fun j1 =>
 parse_reader_must (parse_reader.mk j1.1 j1.2.1 j1.2.2.1 j1.2.2.2.1 j1.2.2.2.2.1 j1.2.2.2.2.2.1) (ByteArray.mk #[125]) >>= fun v8 =>
 some (v8, (ast_Stmt.mk 5 v1.2 (ByteArray.mk #[]) (ast_Expr.mk 0 0 (ByteArray.mk #[]) []) (ast_Cond.mk 0 (ast_Expr.mk 0 0 (ByteArray.mk #[]) []) (ast_Expr.mk 0 0 (ByteArray.mk #[]) [])) [] [] j1.2.2.2.2.2.2)))
noncomputable def parse_reader_blockN : Nat → parse_reader → Option (parse_reader × (List ast_Stmt))
  | 0, _ => none
  | n + 1, a0 => ((parse_reader_sees a0 (ByteArray.mk #[123]) >>= fun v1 =>
 if v1 then (some (a0.f_in == 24))
 else (some false) : Option Bool) >>= fun j1 =>
 if j1 then (parse_reader_fail a0 6 >>= fun v2 =>
 some (v2, []))
 else (parse_reader_must a0 (ByteArray.mk #[123]) >>= fun v3 =>
 (parse_reader_stmtsN n) (parse_reader.mk v3.f_l v3.f_end v3.f_e v3.f_at v3.f_deep (IntKind.i64.wrap (v3.f_in + 1))) >>= fun v4 =>
 parse_reader_must (parse_reader.mk v4.1.f_l v4.1.f_end v4.1.f_e v4.1.f_at v4.1.f_deep (IntKind.i64.wrap (v4.1.f_in - 1))) (ByteArray.mk #[125]) >>= fun v5 =>
 some (v5, v4.2)))
noncomputable def parse_reader_armN : Nat → parse_reader → Option (parse_reader × ast_Arm)
  | 0, _ => none
  | n + 1, a0 => parse_reader_name a0 >>= fun v1 =>
 parse_reader_must v1.1 (ByteArray.mk #[40]) >>= fun v2 =>
 parse_reader_name v2 >>= fun v3 =>
 parse_reader_must v3.1 (ByteArray.mk #[41]) >>= fun v4 =>
 (parse_reader_blockN n) v4 >>= fun v5 =>
 some (v5.1, (ast_Arm.mk v1.2 v3.2 v5.2))
end

noncomputable def parse_reader_stmts (a0 : parse_reader) : Option (parse_reader × (List ast_Stmt)) := unf fun n => parse_reader_stmtsN n a0

noncomputable def parse_reader_proc_l1 (x1 : ((List lex_Token) × Int × Int × Int × Int × Int × (List ByteArray))) : Option (Sum ((List lex_Token) × Int × Int × Int × Int × Int × (List ByteArray)) (Sum (parse_reader × ast_Proc) ((List lex_Token) × Int × Int × Int × Int × Int × (List ByteArray)))) :=
 parse_reader_skip (parse_reader.mk x1.1 x1.2.1 x1.2.2.1 x1.2.2.2.1 x1.2.2.2.2.1 x1.2.2.2.2.2.1) (ByteArray.mk #[118, 97, 114]) >>= fun v3 =>
 if v3.2 then (parse_reader_name v3.1 >>= fun v4 =>
 app 16 x1.2.2.2.2.2.2 [v4.2] >>= fun v5 =>
 parse_reader_must v4.1 (ByteArray.mk #[59]) >>= fun v6 =>
 some (.inl (v6.f_l, v6.f_end, v6.f_e, v6.f_at, v6.f_deep, v6.f_in, v5)))
 else (some (.inr (.inr (v3.1.f_l, v3.1.f_end, v3.1.f_e, v3.1.f_at, v3.1.f_deep, v3.1.f_in, x1.2.2.2.2.2.2))))

noncomputable def parse_reader_proc (a0 : parse_reader) : Option (parse_reader × ast_Proc) :=
 parse_reader_name a0 >>= fun v1 =>
 parse_reader_must v1.1 (ByteArray.mk #[123]) >>= fun v2 =>
 iter (parse_reader_proc_l1) (v2.f_l, v2.f_end, v2.f_e, v2.f_at, v2.f_deep, v2.f_in, []) >>= Sum.elim (fun _ => none) (fun j1 =>
 parse_reader_stmts (parse_reader.mk j1.1 j1.2.1 j1.2.2.1 j1.2.2.2.1 j1.2.2.2.2.1 j1.2.2.2.2.2.1) >>= fun v7 =>
 parse_reader_must v7.1 (ByteArray.mk #[125]) >>= fun v8 =>
 some (v8, (ast_Proc.mk v1.2 j1.2.2.2.2.2.2 v7.2)))

def r_parse_reader_proc (r : (parse_reader × ast_Proc)) : List XV := [.agg (bs (e_ast_Proc r.2))]

def o_parse_reader_proc (r : (parse_reader × ast_Proc)) : Store := [oB 71 (bs (e_parse_reader r.1))]

noncomputable def R_parse_reader_proc (r : (parse_reader × ast_Proc)) : Tg := .r false Tryz.f23.results.toList 1 (r_parse_reader_proc r) (o_parse_reader_proc r)

noncomputable def parse_Parse_l1 (x1 : ((List lex_Token) × Int × Int × Int × Int × Int × (List ast_Chan))) : Option (Sum ((List lex_Token) × Int × Int × Int × Int × Int × (List ast_Chan)) (Sum (ast_System × Int × Int) ((List lex_Token) × Int × Int × Int × Int × Int × (List ast_Chan)))) :=
 parse_reader_skip (parse_reader.mk x1.1 x1.2.1 x1.2.2.1 x1.2.2.2.1 x1.2.2.2.2.1 x1.2.2.2.2.2.1) (ByteArray.mk #[99, 104, 97, 110]) >>= fun v2 =>
 if v2.2 then (parse_reader_channel v2.1 >>= fun v3 =>
 app 88 x1.2.2.2.2.2.2 [v3.2] >>= fun v4 =>
 some (.inl (v3.1.f_l, v3.1.f_end, v3.1.f_e, v3.1.f_at, v3.1.f_deep, v3.1.f_in, v4)))
 else (some (.inr (.inr (v2.1.f_l, v2.1.f_end, v2.1.f_e, v2.1.f_at, v2.1.f_deep, v2.1.f_in, x1.2.2.2.2.2.2))))

noncomputable def parse_Parse_l2 (x2 : ((List lex_Token) × Int × Int × Int × Int × Int × (List ast_Rule))) : Option (Sum ((List lex_Token) × Int × Int × Int × Int × Int × (List ast_Rule)) (Sum (ast_System × Int × Int) ((List lex_Token) × Int × Int × Int × Int × Int × (List ast_Rule)))) :=
 parse_reader_skip (parse_reader.mk x2.1 x2.2.1 x2.2.2.1 x2.2.2.2.1 x2.2.2.2.2.1 x2.2.2.2.2.2.1) (ByteArray.mk #[114, 117, 108, 101]) >>= fun v5 =>
 if v5.2 then (parse_reader_rule v5.1 >>= fun v6 =>
 app 40 x2.2.2.2.2.2.2 [v6.2] >>= fun v7 =>
 some (.inl (v6.1.f_l, v6.1.f_end, v6.1.f_e, v6.1.f_at, v6.1.f_deep, v6.1.f_in, v7)))
 else (some (.inr (.inr (v5.1.f_l, v5.1.f_end, v5.1.f_e, v5.1.f_at, v5.1.f_deep, v5.1.f_in, x2.2.2.2.2.2.2))))

noncomputable def parse_Parse_l3 (x3 : ((List lex_Token) × Int × Int × Int × Int × Int × (List ast_Proc))) : Option (Sum ((List lex_Token) × Int × Int × Int × Int × Int × (List ast_Proc)) (Sum (ast_System × Int × Int) ((List lex_Token) × Int × Int × Int × Int × Int × (List ast_Proc)))) :=
 parse_reader_skip (parse_reader.mk x3.1 x3.2.1 x3.2.2.1 x3.2.2.2.1 x3.2.2.2.2.1 x3.2.2.2.2.2.1) (ByteArray.mk #[112, 114, 111, 99]) >>= fun v8 =>
 if v8.2 then (parse_reader_proc v8.1 >>= fun v9 =>
 app 64 x3.2.2.2.2.2.2 [v9.2] >>= fun v10 =>
 some (.inl (v9.1.f_l, v9.1.f_end, v9.1.f_e, v9.1.f_at, v9.1.f_deep, v9.1.f_in, v10)))
 else (some (.inr (.inr (v8.1.f_l, v8.1.f_end, v8.1.f_e, v8.1.f_at, v8.1.f_deep, v8.1.f_in, x3.2.2.2.2.2.2))))

noncomputable def parse_Parse (a0 : ByteArray) : Option (ast_System × Int × Int) :=
 lex_Lex a0 >>= fun v1 =>
 if (v1.2.2 != 0) then (some ((ast_System.mk [] [] []), v1.2.1, v1.2.2))
 else (iter (parse_Parse_l1) (v1.1, (a0.size : Int), 0, 0, 0, 0, []) >>= Sum.elim (fun _ => none) (fun j1 =>
 iter (parse_Parse_l2) (j1.1, j1.2.1, j1.2.2.1, j1.2.2.2.1, j1.2.2.2.2.1, j1.2.2.2.2.2.1, []) >>= Sum.elim (fun _ => none) (fun j2 =>
 iter (parse_Parse_l3) (j2.1, j2.2.1, j2.2.2.1, j2.2.2.2.1, j2.2.2.2.2.1, j2.2.2.2.2.2.1, []) >>= Sum.elim (fun _ => none) (fun j3 =>
 if (decide ((j3.1.length : Int) > 0)) then (parse_reader_fail (parse_reader.mk j3.1 j3.2.1 j3.2.2.1 j3.2.2.2.1 j3.2.2.2.2.1 j3.2.2.2.2.2.1) 5 >>= fun v11 =>
 if (v11.f_e != 0) then (some ((ast_System.mk [] [] []), v11.f_at, v11.f_e))
 else (some ((ast_System.mk j1.2.2.2.2.2.2 j2.2.2.2.2.2.2 j3.2.2.2.2.2.2), 0, 0)))
 else (if (j3.2.2.1 != 0) then (some ((ast_System.mk [] [] []), j3.2.2.2.1, j3.2.2.1))
 else (some ((ast_System.mk j1.2.2.2.2.2.2 j2.2.2.2.2.2.2 j3.2.2.2.2.2.2), 0, 0)))))))

def r_parse_Parse (r : (ast_System × Int × Int)) : List XV := [.agg (bs (e_ast_System r.1)), xI r.2.1, xI r.2.2]

def o_parse_Parse (r : (ast_System × Int × Int)) : Store := []

noncomputable def R_parse_Parse (r : (ast_System × Int × Int)) : Tg := .r false Tryz.f9.results.toList 0 (r_parse_Parse r) (o_parse_Parse r)

noncomputable def r01_letter (a0 : Int) : Option Bool :=
 if (decide (a0 ≥ 97)) then (some (decide (a0 ≤ 122)))
 else (some false)

def r_r01_letter (r : Bool) : List XV := [xB r]

def o_r01_letter (r : Bool) : Store := []

noncomputable def r01_digit (a0 : Int) : Option Bool :=
 if (decide (a0 ≥ 48)) then (some (decide (a0 ≤ 57)))
 else (some false)

def r_r01_digit (r : Bool) : List XV := [xB r]

def o_r01_digit (r : Bool) : Store := []

noncomputable def r01_words : Option (List ByteArray) :=
 some [(ByteArray.mk #[99, 104, 97, 110]), (ByteArray.mk #[98, 108, 111, 99, 107]), (ByteArray.mk #[100, 114, 111, 112]), (ByteArray.mk #[108, 111, 115, 115, 121]), (ByteArray.mk #[102, 114, 111, 109]), (ByteArray.mk #[116, 111]), (ByteArray.mk #[114, 117, 108, 101]), (ByteArray.mk #[112, 114, 111, 99]), (ByteArray.mk #[118, 97, 114]), (ByteArray.mk #[105, 102]), (ByteArray.mk #[101, 108, 115, 101]), (ByteArray.mk #[119, 104, 105, 108, 101]), (ByteArray.mk #[115, 101, 110, 100]), (ByteArray.mk #[114, 101, 99, 118]), (ByteArray.mk #[97, 115, 115, 101, 114, 116]), (ByteArray.mk #[105, 110, 112, 117, 116])]

def r_r01_words (r : (List ByteArray)) : List XV := [xL (List.map e_str r)]

def o_r01_words (r : (List ByteArray)) : Store := []

noncomputable def r01_Reserved_l1 (a0 : ByteArray) (v1 : (List ByteArray)) (x1 : Int) : Option (Sum Int (Sum Bool Unit)) :=
 if (decide (x1 < (v1.length : Int))) then (idx v1 x1 >>= fun v2 =>
 if (v2.toList == a0.toList) then (some (.inr (.inl true)))
 else (some (.inl (IntKind.i64.wrap (x1 + 1)))))
 else (some (.inr (.inr ())))

noncomputable def r01_Reserved (a0 : ByteArray) : Option Bool :=
 r01_words >>= fun v1 =>
 iter (r01_Reserved_l1 a0 v1) 0 >>= Sum.elim (fun r => some r) (fun j1 =>
 some false)

def r_r01_Reserved (r : Bool) : List XV := [xB r]

def o_r01_Reserved (r : Bool) : Store := []

noncomputable def R_r01_Reserved (r : Bool) : Tg := .r false Tryz.f64.results.toList 0 (r_r01_Reserved r) (o_r01_Reserved r)

noncomputable def r01_sign_l1 (a0 : ByteArray) (a1 : Int) (x1 : Int) : Option (Sum Int (Sum Int Unit)) :=
 if (decide (x1 < 4)) then (((if (decide ((IntKind.i64.wrap (a1 + 2)) ≤ (a0.size : Int))) then (ssub a0 a1 (IntKind.i64.wrap (a1 + 2)) >>= fun v1 =>
 idx [(ByteArray.mk #[61, 61]), (ByteArray.mk #[33, 61]), (ByteArray.mk #[60, 61]), (ByteArray.mk #[62, 61])] x1 >>= fun v2 =>
 some (v1.toList == v2.toList))
 else (some false) : Option Bool) >>= fun j2 =>
 if j2 then (some (.inr (.inl 2)))
 else (some (.inl (IntKind.i64.wrap (x1 + 1))))))
 else (some (.inr (.inr ())))

noncomputable def r01_sign_l3 (a0 : ByteArray) (a1 : Int) (x3 : Int) : Option (Sum Int (Sum Int Unit)) :=
 if (decide (x3 < ((ByteArray.mk #[123, 125, 40, 41, 59, 44, 46, 61, 60, 62, 43, 45, 42, 47, 37]).size : Int))) then (bidx (ByteArray.mk #[123, 125, 40, 41, 59, 44, 46, 61, 60, 62, 43, 45, 42, 47, 37]) x3 >>= fun v3 =>
 bidx a0 a1 >>= fun v4 =>
 if (v3 == v4) then (some (.inr (.inl 1)))
 else (some (.inl (IntKind.i64.wrap (x3 + 1)))))
 else (some (.inr (.inr ())))

noncomputable def r01_sign (a0 : ByteArray) (a1 : Int) : Option Int :=
 iter (r01_sign_l1 a0 a1) 0 >>= Sum.elim (fun r => some r) (fun j1 =>
 iter (r01_sign_l3 a0 a1) 0 >>= Sum.elim (fun r => some r) (fun j3 =>
 some 0))

def r_r01_sign (r : Int) : List XV := [xI r]

def o_r01_sign (r : Int) : Store := []

noncomputable def R_r01_sign (r : Int) : Tg := .r false Tryz.f65.results.toList 0 (r_r01_sign r) (o_r01_sign r)

noncomputable def r01_Lex_l3 (a0 : ByteArray) (v1 : Int) (x3 : Int) : Option (Sum Int (Sum ((List r01_Token) × Int × Int) Int)) :=
 ((if (decide (x3 < (a0.size : Int))) then (r01_letter v1 >>= fun v2 =>
 if v2 then (bidx a0 x3 >>= fun v3 =>
 r01_letter v3 >>= fun v4 =>
 if v4 then (some true)
 else (bidx a0 x3 >>= fun v5 =>
 r01_digit v5 >>= fun v6 =>
 some v6))
 else (r01_digit v1 >>= fun v7 =>
 if v7 then (bidx a0 x3 >>= fun v8 =>
 r01_letter v8 >>= fun v9 =>
 if v9 then (some true)
 else (bidx a0 x3 >>= fun v10 =>
 r01_digit v10 >>= fun v11 =>
 some v11))
 else (some false)))
 else (some false) : Option Bool) >>= fun j4 =>
 if j4 then (some (.inl (IntKind.i64.wrap (x3 + 1))))
 else (some (.inr (.inr x3))))

noncomputable def r01_Lex_l7 (v16 : ByteArray) (x1 : (Int × (List r01_Token))) (x7 : (Int × Int)) : Option (Sum (Int × Int) (Sum ((List r01_Token) × Int × Int) Int)) :=
 if (decide (x7.1 < (v16.size : Int))) then (bidx v16 x7.1 >>= fun v17 =>
 r01_digit v17 >>= fun v18 =>
 if (!v18) then (some (.inr (.inl ([], x1.1, 3))))
 else (bidx v16 x7.1 >>= fun v19 =>
 some (.inl ((IntKind.i64.wrap (x7.1 + 1)), (IntKind.i64.wrap ((IntKind.i64.wrap (10 * x7.2)) + (IntKind.i64.wrap (IntKind.u8.wrap (v19 - 48)))))))))
 else (some (.inr (.inr x7.2)))

noncomputable def r01_Lex_l1 (a0 : ByteArray) (x1 : (Int × (List r01_Token))) : Option (Sum (Int × (List r01_Token)) (Sum ((List r01_Token) × Int × Int) (List r01_Token))) :=
 if (decide (x1.1 < (a0.size : Int))) then (bidx a0 x1.1 >>= fun v1 =>
 ((if (v1 == 32) then (some true)
 else (some (v1 == 10)) : Option Bool) >>= fun j2 =>
 if j2 then (some (.inl ((IntKind.i64.wrap (x1.1 + 1)), x1.2)))
 else (iter (r01_Lex_l3 a0 v1) x1.1 >>= Sum.elim (fun _ => none) (fun j3 =>
 ((r01_letter v1 >>= fun v12 =>
 if v12 then (ssub a0 x1.1 j3 >>= fun v13 =>
 r01_Reserved v13 >>= fun v14 =>
 if v14 then (if (decide ((v13.size : Int) > 12)) then (some (.inl ([], x1.1, 3)))
 else (some (.inr (j3, 4, v13, 0))))
 else (if (decide ((v13.size : Int) > 12)) then (some (.inl ([], x1.1, 3)))
 else (some (.inr (j3, 1, v13, 0)))))
 else (r01_digit v1 >>= fun v15 =>
 if v15 then (ssub a0 x1.1 j3 >>= fun v16 =>
 ((if (decide ((v16.size : Int) > 10)) then (some true)
 else (if (decide ((v16.size : Int) > 1)) then (some (v1 == 48))
 else (some false)) : Option Bool) >>= fun j6 =>
 if j6 then (some (.inl ([], x1.1, 3)))
 else (iter (r01_Lex_l7 v16 x1) (0, 0) >>= Sum.elim (fun r => some (.inl r)) (fun j7 =>
 if (decide (j7 > 2147483647)) then (some (.inl ([], x1.1, 3)))
 else (some (.inr (j3, 2, v16, j7)))))))
 else (r01_sign a0 x1.1 >>= fun v20 =>
 if (v20 == 0) then (some (.inl ([], x1.1, 2)))
 else (ssub a0 x1.1 (IntKind.i64.wrap (x1.1 + v20)) >>= fun v21 =>
 some (.inr ((IntKind.i64.wrap (x1.1 + v20)), 3, v21, 0))))) : Option (Sum ((List r01_Token) × Int × Int) (Int × Int × ByteArray × Int))) >>= Sum.elim (fun r => some (.inr (.inl r))) (fun j5 =>
 app 40 x1.2 [(r01_Token.mk j5.2.1 j5.2.2.1 j5.2.2.2 x1.1)] >>= fun v22 =>
 some (.inl (j5.1, v22))))))))
 else (some (.inr (.inr x1.2)))

noncomputable def r01_Lex (a0 : ByteArray) : Option ((List r01_Token) × Int × Int) :=
 iter (r01_Lex_l1 a0) (0, []) >>= Sum.elim (fun r => some r) (fun j1 =>
 if (decide ((j1.length : Int) > 2000)) then (some ([], (a0.size : Int), 4))
 else (some (j1, 0, 0)))

def r_r01_Lex (r : ((List r01_Token) × Int × Int)) : List XV := [xL (List.map e_r01_Token r.1), xI r.2.1, xI r.2.2]

def o_r01_Lex (r : ((List r01_Token) × Int × Int)) : Store := []

noncomputable def R_r01_Lex (r : ((List r01_Token) × Int × Int)) : Tg := .r false Tryz.f25.results.toList 0 (r_r01_Lex r) (o_r01_Lex r)

noncomputable def r03_Reader_is (a0 : r03_Reader) (a1 : ByteArray) : Option Bool :=
 if (a0.E == 0) then (if (decide (a0.I < (a0.L.length : Int))) then (idx a0.L a0.I >>= fun v1 =>
 if (v1.Text.toList == a1.toList) then (some (decide (v1.Kind ≥ 3)))
 else (some false))
 else (some false))
 else (some false)

def r_r03_Reader_is (r : Bool) : List XV := [xB r]

def o_r03_Reader_is (a0 : r03_Reader) (r : Bool) : Store := [oB 89 (bs (e_r03_Reader a0))]

noncomputable def r03_Reader_fail (a0 : r03_Reader) (a1 : Int) : Option r03_Reader :=
 if (a0.E != 0) then (some a0)
 else (if (decide (a0.I < (a0.L.length : Int))) then (idx a0.L a0.I >>= fun v1 =>
 some (r03_Reader.mk a0.L a0.I a0.End a1 v1.At))
 else (some (r03_Reader.mk a0.L a0.I a0.End a1 a0.End)))

def r_r03_Reader_fail (r : r03_Reader) : List XV := []

def o_r03_Reader_fail (r : r03_Reader) : Store := [oB 89 (bs (e_r03_Reader r))]

noncomputable def r03_Reader_name (a0 : r03_Reader) : Option (r03_Reader × ByteArray) :=
 ((if (a0.E != 0) then (some true)
 else (if (decide (a0.I ≥ (a0.L.length : Int))) then (some true)
 else (idx a0.L a0.I >>= fun v1 =>
 some (v1.Kind != 1))) : Option Bool) >>= fun j1 =>
 if j1 then (r03_Reader_fail a0 5 >>= fun v2 =>
 some (v2, (ByteArray.mk #[])))
 else (idx a0.L (IntKind.i64.wrap ((IntKind.i64.wrap (a0.I + 1)) - 1)) >>= fun v3 =>
 some ((r03_Reader.mk a0.L (IntKind.i64.wrap (a0.I + 1)) a0.End a0.E a0.At), v3.Text)))

def r_r03_Reader_name (r : (r03_Reader × ByteArray)) : List XV := [xS r.2]

def o_r03_Reader_name (r : (r03_Reader × ByteArray)) : Store := [oB 89 (bs (e_r03_Reader r.1))]

noncomputable def r03_Reader_number (a0 : r03_Reader) : Option (r03_Reader × Int) :=
 ((if (a0.E != 0) then (some true)
 else (if (decide (a0.I ≥ (a0.L.length : Int))) then (some true)
 else (idx a0.L a0.I >>= fun v1 =>
 some (v1.Kind != 2))) : Option Bool) >>= fun j1 =>
 if j1 then (r03_Reader_fail a0 5 >>= fun v2 =>
 some (v2, 0))
 else (idx a0.L (IntKind.i64.wrap ((IntKind.i64.wrap (a0.I + 1)) - 1)) >>= fun v3 =>
 some ((r03_Reader.mk a0.L (IntKind.i64.wrap (a0.I + 1)) a0.End a0.E a0.At), v3.Num)))

def r_r03_Reader_number (r : (r03_Reader × Int)) : List XV := [xI r.2]

def o_r03_Reader_number (r : (r03_Reader × Int)) : Store := [oB 89 (bs (e_r03_Reader r.1))]

noncomputable def r03_Reader_must (a0 : r03_Reader) (a1 : ByteArray) : Option r03_Reader :=
 r03_Reader_is a0 a1 >>= fun v1 =>
 if (!v1) then (r03_Reader_fail a0 5 >>= fun v2 =>
 some v2)
 else (some (r03_Reader.mk a0.L (IntKind.i64.wrap (a0.I + 1)) a0.End a0.E a0.At))

def r_r03_Reader_must (r : r03_Reader) : List XV := []

def o_r03_Reader_must (r : r03_Reader) : Store := [oB 89 (bs (e_r03_Reader r))]

noncomputable def r03_Reader_channel_l1 (v1 : (r03_Reader × ByteArray)) (x1 : (Int × Int)) : Option (Sum (Int × Int) (Sum (r03_Reader × r02_Chan) Int)) :=
 if (decide (x1.1 < 3)) then (((idx [(ByteArray.mk #[98, 108, 111, 99, 107]), (ByteArray.mk #[100, 114, 111, 112]), (ByteArray.mk #[108, 111, 115, 115, 121])] x1.1 >>= fun v2 =>
 r03_Reader_is v1.1 v2 >>= fun v3 =>
 if v3 then (some x1.1)
 else (some x1.2) : Option Int) >>= fun j2 =>
 some (.inl ((IntKind.i64.wrap (x1.1 + 1)), j2))))
 else (some (.inr (.inr x1.2)))

noncomputable def r03_Reader_channel_l3 (x3 : ((List r01_Token) × Int × Int × Int × Int × (List ByteArray))) : Option (Sum ((List r01_Token) × Int × Int × Int × Int × (List ByteArray)) (Sum (r03_Reader × r02_Chan) ((List r01_Token) × Int × Int × Int × Int × (List ByteArray)))) :=
 r03_Reader_is (r03_Reader.mk x3.1 x3.2.1 x3.2.2.1 x3.2.2.2.1 x3.2.2.2.2.1) (ByteArray.mk #[44]) >>= fun v13 =>
 if v13 then (r03_Reader_name (r03_Reader.mk x3.1 (IntKind.i64.wrap (x3.2.1 + 1)) x3.2.2.1 x3.2.2.2.1 x3.2.2.2.2.1) >>= fun v14 =>
 app 16 x3.2.2.2.2.2 [v14.2] >>= fun v15 =>
 some (.inl (v14.1.L, v14.1.I, v14.1.End, v14.1.E, v14.1.At, v15)))
 else (some (.inr (.inr (x3.1, x3.2.1, x3.2.2.1, x3.2.2.2.1, x3.2.2.2.2.1, x3.2.2.2.2.2))))

noncomputable def r03_Reader_channel (a0 : r03_Reader) : Option (r03_Reader × r02_Chan) :=
 r03_Reader_name a0 >>= fun v1 =>
 iter (r03_Reader_channel_l1 v1) (0, (-1)) >>= Sum.elim (fun _ => none) (fun j1 =>
 if (decide (j1 < 0)) then (r03_Reader_fail v1.1 5 >>= fun v4 =>
 some (v4, (r02_Chan.mk v1.2 j1 0 (ByteArray.mk #[]) (ByteArray.mk #[]) [])))
 else (r03_Reader_number (r03_Reader.mk v1.1.L (IntKind.i64.wrap (v1.1.I + 1)) v1.1.End v1.1.E v1.1.At) >>= fun v5 =>
 r03_Reader_must v5.1 (ByteArray.mk #[102, 114, 111, 109]) >>= fun v6 =>
 r03_Reader_name v6 >>= fun v7 =>
 r03_Reader_must v7.1 (ByteArray.mk #[116, 111]) >>= fun v8 =>
 r03_Reader_name v8 >>= fun v9 =>
 r03_Reader_must v9.1 (ByteArray.mk #[123]) >>= fun v10 =>
 r03_Reader_name v10 >>= fun v11 =>
 app 16 [] [v11.2] >>= fun v12 =>
 iter (r03_Reader_channel_l3) (v11.1.L, v11.1.I, v11.1.End, v11.1.E, v11.1.At, v12) >>= Sum.elim (fun _ => none) (fun j3 =>
 r03_Reader_must (r03_Reader.mk j3.1 j3.2.1 j3.2.2.1 j3.2.2.2.1 j3.2.2.2.2.1) (ByteArray.mk #[125]) >>= fun v16 =>
 r03_Reader_must v16 (ByteArray.mk #[59]) >>= fun v17 =>
 some (v17, (r02_Chan.mk v1.2 j1 v5.2 v7.2 v9.2 j3.2.2.2.2.2)))))

def r_r03_Reader_channel (r : (r03_Reader × r02_Chan)) : List XV := [.agg (bs (e_r02_Chan r.2))]

def o_r03_Reader_channel (r : (r03_Reader × r02_Chan)) : Store := [oB 89 (bs (e_r03_Reader r.1))]

noncomputable def R_r03_Reader_channel (r : (r03_Reader × r02_Chan)) : Tg := .r false Tryz.f27.results.toList 1 (r_r03_Reader_channel r) (o_r03_Reader_channel r)

def r_r03_Reader_expr (r : (r03_Reader × r02_Expr)) : List XV := [.agg (bs (f_r02_Expr r.2))]

def o_r03_Reader_expr (r : (r03_Reader × r02_Expr)) : Store := [oB 89 (bs (e_r03_Reader r.1))]

noncomputable def r03_Reader_chain_l2 (F_r03_Reader_expr : r03_Reader → Int → Option (r03_Reader × r02_Expr)) (F_r03_Reader_chain : r03_Reader → Int → (List ByteArray) → Int → Option (r03_Reader × r02_Expr)) (F_r03_Reader_factor : r03_Reader → Int → Option (r03_Reader × r02_Expr)) (a2 : (List ByteArray)) (x1 : ((List r01_Token) × Int × Int × Int × Int × Int × Int × ByteArray × (List r02_Expr))) (x2 : (Int × Int)) : Option (Sum (Int × Int) (Sum (r03_Reader × r02_Expr) Int)) :=
 if (decide (x2.2 < (a2.length : Int))) then (((idx a2 x2.2 >>= fun v2 =>
 r03_Reader_is (r03_Reader.mk x1.1 x1.2.1 x1.2.2.1 x1.2.2.2.1 x1.2.2.2.2.1) v2 >>= fun v3 =>
 if v3 then (some x2.2)
 else (some x2.1) : Option Int) >>= fun j3 =>
 some (.inl (j3, (IntKind.i64.wrap (x2.2 + 1))))))
 else (some (.inr (.inr x2.1)))

noncomputable def r03_Reader_chain_l1 (F_r03_Reader_expr : r03_Reader → Int → Option (r03_Reader × r02_Expr)) (F_r03_Reader_chain : r03_Reader → Int → (List ByteArray) → Int → Option (r03_Reader × r02_Expr)) (F_r03_Reader_factor : r03_Reader → Int → Option (r03_Reader × r02_Expr)) (a1 : Int) (a2 : (List ByteArray)) (a3 : Int) (x1 : ((List r01_Token) × Int × Int × Int × Int × Int × Int × ByteArray × (List r02_Expr))) : Option (Sum ((List r01_Token) × Int × Int × Int × Int × Int × Int × ByteArray × (List r02_Expr)) (Sum (r03_Reader × r02_Expr) ((List r01_Token) × Int × Int × Int × Int × Int × Int × ByteArray × (List r02_Expr)))) :=
 if (x1.2.2.2.1 == 0) then (iter (r03_Reader_chain_l2 F_r03_Reader_expr F_r03_Reader_chain F_r03_Reader_factor a2 x1) ((-1), 0) >>= Sum.elim (fun _ => none) (fun j2 =>
 if (decide (j2 < 0)) then (some (.inr (.inr (x1.1, x1.2.1, x1.2.2.1, x1.2.2.2.1, x1.2.2.2.2.1, x1.2.2.2.2.2.1, x1.2.2.2.2.2.2.1, x1.2.2.2.2.2.2.2.1, x1.2.2.2.2.2.2.2.2))))
 else (F_r03_Reader_factor (r03_Reader.mk x1.1 (IntKind.i64.wrap (x1.2.1 + 1)) x1.2.2.1 x1.2.2.2.1 x1.2.2.2.2.1) a1 >>= fun v4 =>
 some (.inl (v4.1.L, v4.1.I, v4.1.End, v4.1.E, v4.1.At, (IntKind.i64.wrap (a3 + j2)), 0, (ByteArray.mk #[]), [(r02_Expr.mk x1.2.2.2.2.2.1 x1.2.2.2.2.2.2.1 x1.2.2.2.2.2.2.2.1 x1.2.2.2.2.2.2.2.2), v4.2])))))
 else (some (.inr (.inr (x1.1, x1.2.1, x1.2.2.1, x1.2.2.2.1, x1.2.2.2.2.1, x1.2.2.2.2.2.1, x1.2.2.2.2.2.2.1, x1.2.2.2.2.2.2.2.1, x1.2.2.2.2.2.2.2.2))))

noncomputable def r03_Reader_chain_l5 (F_r03_Reader_expr : r03_Reader → Int → Option (r03_Reader × r02_Expr)) (F_r03_Reader_chain : r03_Reader → Int → (List ByteArray) → Int → Option (r03_Reader × r02_Expr)) (F_r03_Reader_factor : r03_Reader → Int → Option (r03_Reader × r02_Expr)) (a2 : (List ByteArray)) (x4 : ((List r01_Token) × Int × Int × Int × Int × Int × Int × ByteArray × (List r02_Expr))) (x5 : (Int × Int)) : Option (Sum (Int × Int) (Sum (r03_Reader × r02_Expr) Int)) :=
 if (decide (x5.2 < (a2.length : Int))) then (((idx a2 x5.2 >>= fun v6 =>
 r03_Reader_is (r03_Reader.mk x4.1 x4.2.1 x4.2.2.1 x4.2.2.2.1 x4.2.2.2.2.1) v6 >>= fun v7 =>
 if v7 then (some x5.2)
 else (some x5.1) : Option Int) >>= fun j6 =>
 some (.inl (j6, (IntKind.i64.wrap (x5.2 + 1))))))
 else (some (.inr (.inr x5.1)))

noncomputable def r03_Reader_chain_l4 (F_r03_Reader_expr : r03_Reader → Int → Option (r03_Reader × r02_Expr)) (F_r03_Reader_chain : r03_Reader → Int → (List ByteArray) → Int → Option (r03_Reader × r02_Expr)) (F_r03_Reader_factor : r03_Reader → Int → Option (r03_Reader × r02_Expr)) (a1 : Int) (a2 : (List ByteArray)) (a3 : Int) (x4 : ((List r01_Token) × Int × Int × Int × Int × Int × Int × ByteArray × (List r02_Expr))) : Option (Sum ((List r01_Token) × Int × Int × Int × Int × Int × Int × ByteArray × (List r02_Expr)) (Sum (r03_Reader × r02_Expr) ((List r01_Token) × Int × Int × Int × Int × Int × Int × ByteArray × (List r02_Expr)))) :=
 if (x4.2.2.2.1 == 0) then (iter (r03_Reader_chain_l5 F_r03_Reader_expr F_r03_Reader_chain F_r03_Reader_factor a2 x4) ((-1), 0) >>= Sum.elim (fun _ => none) (fun j5 =>
 if (decide (j5 < 0)) then (some (.inr (.inr (x4.1, x4.2.1, x4.2.2.1, x4.2.2.2.1, x4.2.2.2.2.1, x4.2.2.2.2.2.1, x4.2.2.2.2.2.2.1, x4.2.2.2.2.2.2.2.1, x4.2.2.2.2.2.2.2.2))))
 else (F_r03_Reader_chain (r03_Reader.mk x4.1 (IntKind.i64.wrap (x4.2.1 + 1)) x4.2.2.1 x4.2.2.2.1 x4.2.2.2.2.1) a1 [(ByteArray.mk #[42]), (ByteArray.mk #[47]), (ByteArray.mk #[37])] 6 >>= fun v8 =>
 some (.inl (v8.1.L, v8.1.I, v8.1.End, v8.1.E, v8.1.At, (IntKind.i64.wrap (a3 + j5)), 0, (ByteArray.mk #[]), [(r02_Expr.mk x4.2.2.2.2.2.1 x4.2.2.2.2.2.2.1 x4.2.2.2.2.2.2.2.1 x4.2.2.2.2.2.2.2.2), v8.2])))))
 else (some (.inr (.inr (x4.1, x4.2.1, x4.2.2.1, x4.2.2.2.1, x4.2.2.2.2.1, x4.2.2.2.2.2.1, x4.2.2.2.2.2.2.1, x4.2.2.2.2.2.2.2.1, x4.2.2.2.2.2.2.2.2))))

def r_r03_Reader_chain (r : (r03_Reader × r02_Expr)) : List XV := [.agg (bs (f_r02_Expr r.2))]

def o_r03_Reader_chain (r : (r03_Reader × r02_Expr)) : Store := [oB 89 (bs (e_r03_Reader r.1))]

noncomputable def R_r03_Reader_chain (r : (r03_Reader × r02_Expr)) : Tg := .r false Tryz.f100.results.toList 1 (r_r03_Reader_chain r) (o_r03_Reader_chain r)

def r_r03_Reader_factor (r : (r03_Reader × r02_Expr)) : List XV := [.agg (bs (f_r02_Expr r.2))]

def o_r03_Reader_factor (r : (r03_Reader × r02_Expr)) : Store := [oB 89 (bs (e_r03_Reader r.1))]

mutual
noncomputable def r03_Reader_exprN : Nat → r03_Reader → Int → Option (r03_Reader × r02_Expr)
  | 0, _, _ => none
  | n + 1, a0, a1 => (r03_Reader_chainN n) a0 a1 [(ByteArray.mk #[43]), (ByteArray.mk #[45])] 4 >>= fun v1 =>
 some (v1.1, v1.2)
noncomputable def r03_Reader_chainN : Nat → r03_Reader → Int → (List ByteArray) → Int → Option (r03_Reader × r02_Expr)
  | 0, _, _, _, _ => none
  | n + 1, a0, a1, a2, a3 => if (a3 == 6) then ((r03_Reader_factorN n) a0 a1 >>= fun v1 =>
 iter (r03_Reader_chain_l1 (r03_Reader_exprN n) (r03_Reader_chainN n) (r03_Reader_factorN n) a1 a2 a3) (v1.1.L, v1.1.I, v1.1.End, v1.1.E, v1.1.At, v1.2.Kind, v1.2.Num, v1.2.Name, v1.2.Kids) >>= Sum.elim (fun _ => none) (fun j1 =>
 some ((r03_Reader.mk j1.1 j1.2.1 j1.2.2.1 j1.2.2.2.1 j1.2.2.2.2.1), (r02_Expr.mk j1.2.2.2.2.2.1 j1.2.2.2.2.2.2.1 j1.2.2.2.2.2.2.2.1 j1.2.2.2.2.2.2.2.2))))
 else ((r03_Reader_chainN n) a0 a1 [(ByteArray.mk #[42]), (ByteArray.mk #[47]), (ByteArray.mk #[37])] 6 >>= fun v5 =>
 iter (r03_Reader_chain_l4 (r03_Reader_exprN n) (r03_Reader_chainN n) (r03_Reader_factorN n) a1 a2 a3) (v5.1.L, v5.1.I, v5.1.End, v5.1.E, v5.1.At, v5.2.Kind, v5.2.Num, v5.2.Name, v5.2.Kids) >>= Sum.elim (fun _ => none) (fun j4 =>
 some ((r03_Reader.mk j4.1 j4.2.1 j4.2.2.1 j4.2.2.2.1 j4.2.2.2.2.1), (r02_Expr.mk j4.2.2.2.2.2.1 j4.2.2.2.2.2.2.1 j4.2.2.2.2.2.2.2.1 j4.2.2.2.2.2.2.2.2))))
noncomputable def r03_Reader_factorN : Nat → r03_Reader → Int → Option (r03_Reader × r02_Expr)
  | 0, _, _ => none
  | n + 1, a0, a1 => ((r03_Reader_is a0 (ByteArray.mk #[45]) >>= fun v1 =>
 if v1 then (some true)
 else (r03_Reader_is a0 (ByteArray.mk #[40]) >>= fun v2 =>
 some v2) : Option Bool) >>= fun j1 =>
 if j1 then (if (decide (a1 ≥ 24)) then (r03_Reader_fail a0 6 >>= fun v3 =>
 some (v3, (r02_Expr.mk 0 0 (ByteArray.mk #[]) [])))
 else (r03_Reader_is a0 (ByteArray.mk #[45]) >>= fun v4 =>
 if v4 then ((r03_Reader_factorN n) (r03_Reader.mk a0.L (IntKind.i64.wrap (a0.I + 1)) a0.End a0.E a0.At) (IntKind.i64.wrap (a1 + 1)) >>= fun v5 =>
 some (v5.1, (r02_Expr.mk 3 0 (ByteArray.mk #[]) [v5.2])))
 else ((r03_Reader_exprN n) (r03_Reader.mk a0.L (IntKind.i64.wrap (a0.I + 1)) a0.End a0.E a0.At) (IntKind.i64.wrap (a1 + 1)) >>= fun v6 =>
 r03_Reader_must v6.1 (ByteArray.mk #[41]) >>= fun v7 =>
 some (v7, v6.2))))
 else (((if (a0.E == 0) then (if (decide (a0.I < (a0.L.length : Int))) then (idx a0.L a0.I >>= fun v8 =>
 some (v8.Kind == 2))
 else (some false))
 else (some false) : Option Bool) >>= fun j2 =>
 if j2 then (r03_Reader_number a0 >>= fun v9 =>
 some (v9.1, (r02_Expr.mk 1 v9.2 (ByteArray.mk #[]) [])))
 else (r03_Reader_name a0 >>= fun v10 =>
 some (v10.1, (r02_Expr.mk 2 0 v10.2 []))))))
end

noncomputable def r03_Reader_expr (a0 : r03_Reader) (a1 : Int) : Option (r03_Reader × r02_Expr) := unf fun n => r03_Reader_exprN n a0 a1

noncomputable def r03_Reader_cond_l1 (v2 : (r03_Reader × r02_Expr)) (x1 : (Int × r02_Cond)) : Option (Sum (Int × r02_Cond) (Sum (r03_Reader × r02_Cond) r02_Cond)) :=
 if (decide (x1.1 < 6)) then (((idx [(ByteArray.mk #[61, 61]), (ByteArray.mk #[33, 61]), (ByteArray.mk #[60]), (ByteArray.mk #[60, 61]), (ByteArray.mk #[62]), (ByteArray.mk #[62, 61])] x1.1 >>= fun v3 =>
 r03_Reader_is v2.1 v3 >>= fun v4 =>
 if v4 then (some (IntKind.i64.wrap (x1.1 + 1)))
 else (some x1.2.Op) : Option Int) >>= fun j2 =>
 some (.inl ((IntKind.i64.wrap (x1.1 + 1)), (r02_Cond.mk j2 x1.2.L x1.2.R)))))
 else (some (.inr (.inr x1.2)))

noncomputable def r03_Reader_cond (a0 : r03_Reader) : Option (r03_Reader × r02_Cond) :=
 r03_Reader_must a0 (ByteArray.mk #[40]) >>= fun v1 =>
 r03_Reader_expr v1 0 >>= fun v2 =>
 iter (r03_Reader_cond_l1 v2) (0, (r02_Cond.mk 0 v2.2 (r02_Expr.mk 0 0 (ByteArray.mk #[]) []))) >>= Sum.elim (fun _ => none) (fun j1 =>
 if (j1.Op == 0) then (r03_Reader_fail v2.1 5 >>= fun v5 =>
 some (v5, j1))
 else (r03_Reader_expr (r03_Reader.mk v2.1.L (IntKind.i64.wrap (v2.1.I + 1)) v2.1.End v2.1.E v2.1.At) 0 >>= fun v6 =>
 r03_Reader_must v6.1 (ByteArray.mk #[41]) >>= fun v7 =>
 some (v7, (r02_Cond.mk j1.Op j1.L v6.2))))

def r_r03_Reader_cond (r : (r03_Reader × r02_Cond)) : List XV := [.agg (bs (e_r02_Cond r.2))]

def o_r03_Reader_cond (r : (r03_Reader × r02_Cond)) : Store := [oB 89 (bs (e_r03_Reader r.1))]

noncomputable def R_r03_Reader_cond (r : (r03_Reader × r02_Cond)) : Tg := .r false Tryz.f66.results.toList 1 (r_r03_Reader_cond r) (o_r03_Reader_cond r)

noncomputable def r03_Reader_stmts_l3 (F_r03_Reader_stmts : r03_Reader → Int → Option (r03_Reader × (List r02_Stmt))) (F_r03_Reader_block : r03_Reader → Int → Option (r03_Reader × (List r02_Stmt))) (a1 : Int) (x3 : ((List r01_Token) × Int × Int × Int × Int × (List r02_Arm))) : Option (Sum ((List r01_Token) × Int × Int × Int × Int × (List r02_Arm)) (Sum (r03_Reader × (List r02_Stmt)) ((List r01_Token) × Int × Int × Int × Int × (List r02_Arm)))) :=
 ((if (x3.2.2.2.1 == 0) then (if ((x3.2.2.2.2.2.length : Int) == 0) then (some true)
 else (r03_Reader_is (r03_Reader.mk x3.1 x3.2.1 x3.2.2.1 x3.2.2.2.1 x3.2.2.2.2.1) (ByteArray.mk #[125]) >>= fun v20 =>
 some (!v20)))
 else (some false) : Option Bool) >>= fun j4 =>
 if j4 then (r03_Reader_name (r03_Reader.mk x3.1 x3.2.1 x3.2.2.1 x3.2.2.2.1 x3.2.2.2.2.1) >>= fun v21 =>
 r03_Reader_must v21.1 (ByteArray.mk #[40]) >>= fun v22 =>
 r03_Reader_name v22 >>= fun v23 =>
 r03_Reader_must v23.1 (ByteArray.mk #[41]) >>= fun v24 =>
 F_r03_Reader_block v24 a1 >>= fun v25 =>
 app 56 x3.2.2.2.2.2 [(r02_Arm.mk v21.2 v23.2 v25.2)] >>= fun v26 =>
 some (.inl (v25.1.L, v25.1.I, v25.1.End, v25.1.E, v25.1.At, v26)))
 else (some (.inr (.inr (x3.1, x3.2.1, x3.2.2.1, x3.2.2.2.1, x3.2.2.2.2.1, x3.2.2.2.2.2)))))

noncomputable def r03_Reader_stmts_l1 (F_r03_Reader_stmts : r03_Reader → Int → Option (r03_Reader × (List r02_Stmt))) (F_r03_Reader_block : r03_Reader → Int → Option (r03_Reader × (List r02_Stmt))) (a1 : Int) (x1 : ((List r01_Token) × Int × Int × Int × Int × (List r02_Stmt))) : Option (Sum ((List r01_Token) × Int × Int × Int × Int × (List r02_Stmt)) (Sum (r03_Reader × (List r02_Stmt)) ((List r01_Token) × Int × Int × Int × Int × (List r02_Stmt)))) :=
 if (x1.2.2.2.1 == 0) then (((r03_Reader_is (r03_Reader.mk x1.1 x1.2.1 x1.2.2.1 x1.2.2.2.1 x1.2.2.2.2.1) (ByteArray.mk #[105, 102]) >>= fun v1 =>
 if v1 then (r03_Reader_cond (r03_Reader.mk x1.1 (IntKind.i64.wrap (x1.2.1 + 1)) x1.2.2.1 x1.2.2.2.1 x1.2.2.2.2.1) >>= fun v2 =>
 F_r03_Reader_block v2.1 a1 >>= fun v3 =>
 r03_Reader_is v3.1 (ByteArray.mk #[101, 108, 115, 101]) >>= fun v4 =>
 if v4 then (F_r03_Reader_block (r03_Reader.mk v3.1.L (IntKind.i64.wrap (v3.1.I + 1)) v3.1.End v3.1.E v3.1.At) a1 >>= fun v5 =>
 some (.inr (v5.1.L, v5.1.I, v5.1.End, v5.1.E, v5.1.At, (r02_Stmt.mk 2 (ByteArray.mk #[]) (ByteArray.mk #[]) (r02_Expr.mk 0 0 (ByteArray.mk #[]) []) v2.2 v3.2 v5.2 []), [])))
 else (some (.inr (v3.1.L, v3.1.I, v3.1.End, v3.1.E, v3.1.At, (r02_Stmt.mk 2 (ByteArray.mk #[]) (ByteArray.mk #[]) (r02_Expr.mk 0 0 (ByteArray.mk #[]) []) v2.2 v3.2 [] []), []))))
 else (r03_Reader_is (r03_Reader.mk x1.1 x1.2.1 x1.2.2.1 x1.2.2.2.1 x1.2.2.2.2.1) (ByteArray.mk #[119, 104, 105, 108, 101]) >>= fun v6 =>
 if v6 then (r03_Reader_cond (r03_Reader.mk x1.1 (IntKind.i64.wrap (x1.2.1 + 1)) x1.2.2.1 x1.2.2.2.1 x1.2.2.2.2.1) >>= fun v7 =>
 F_r03_Reader_block v7.1 a1 >>= fun v8 =>
 some (.inr (v8.1.L, v8.1.I, v8.1.End, v8.1.E, v8.1.At, (r02_Stmt.mk 3 (ByteArray.mk #[]) (ByteArray.mk #[]) (r02_Expr.mk 0 0 (ByteArray.mk #[]) []) v7.2 v8.2 [] []), [])))
 else (r03_Reader_is (r03_Reader.mk x1.1 x1.2.1 x1.2.2.1 x1.2.2.2.1 x1.2.2.2.2.1) (ByteArray.mk #[115, 101, 110, 100]) >>= fun v9 =>
 if v9 then (r03_Reader_name (r03_Reader.mk x1.1 (IntKind.i64.wrap (x1.2.1 + 1)) x1.2.2.1 x1.2.2.2.1 x1.2.2.2.2.1) >>= fun v10 =>
 r03_Reader_must v10.1 (ByteArray.mk #[46]) >>= fun v11 =>
 r03_Reader_name v11 >>= fun v12 =>
 r03_Reader_must v12.1 (ByteArray.mk #[40]) >>= fun v13 =>
 r03_Reader_expr v13 0 >>= fun v14 =>
 r03_Reader_must v14.1 (ByteArray.mk #[41]) >>= fun v15 =>
 r03_Reader_must v15 (ByteArray.mk #[59]) >>= fun v16 =>
 some (.inr (v16.L, v16.I, v16.End, v16.E, v16.At, (r02_Stmt.mk 4 v10.2 v12.2 v14.2 (r02_Cond.mk 0 (r02_Expr.mk 0 0 (ByteArray.mk #[]) []) (r02_Expr.mk 0 0 (ByteArray.mk #[]) [])) [] [] []), [])))
 else (r03_Reader_is (r03_Reader.mk x1.1 x1.2.1 x1.2.2.1 x1.2.2.2.1 x1.2.2.2.2.1) (ByteArray.mk #[114, 101, 99, 118]) >>= fun v17 =>
 if v17 then (r03_Reader_name (r03_Reader.mk x1.1 (IntKind.i64.wrap (x1.2.1 + 1)) x1.2.2.1 x1.2.2.2.1 x1.2.2.2.2.1) >>= fun v18 =>
 r03_Reader_must v18.1 (ByteArray.mk #[123]) >>= fun v19 =>
 iter (r03_Reader_stmts_l3 F_r03_Reader_stmts F_r03_Reader_block a1) (v19.L, v19.I, v19.End, v19.E, v19.At, []) >>= Sum.elim (fun _ => none) (fun j3 =>
 r03_Reader_must (r03_Reader.mk j3.1 j3.2.1 j3.2.2.1 j3.2.2.2.1 j3.2.2.2.2.1) (ByteArray.mk #[125]) >>= fun v27 =>
 some (.inr (v27.L, v27.I, v27.End, v27.E, v27.At, (r02_Stmt.mk 5 v18.2 (ByteArray.mk #[]) (r02_Expr.mk 0 0 (ByteArray.mk #[]) []) (r02_Cond.mk 0 (r02_Expr.mk 0 0 (ByteArray.mk #[]) []) (r02_Expr.mk 0 0 (ByteArray.mk #[]) [])) [] [] j3.2.2.2.2.2), j3.2.2.2.2.2))))
 else (r03_Reader_is (r03_Reader.mk x1.1 x1.2.1 x1.2.2.1 x1.2.2.2.1 x1.2.2.2.2.1) (ByteArray.mk #[97, 115, 115, 101, 114, 116]) >>= fun v28 =>
 if v28 then (r03_Reader_cond (r03_Reader.mk x1.1 (IntKind.i64.wrap (x1.2.1 + 1)) x1.2.2.1 x1.2.2.2.1 x1.2.2.2.2.1) >>= fun v29 =>
 r03_Reader_must v29.1 (ByteArray.mk #[59]) >>= fun v30 =>
 some (.inr (v30.L, v30.I, v30.End, v30.E, v30.At, (r02_Stmt.mk 6 (ByteArray.mk #[]) (ByteArray.mk #[]) (r02_Expr.mk 0 0 (ByteArray.mk #[]) []) v29.2 [] [] []), [])))
 else (r03_Reader_is (r03_Reader.mk x1.1 x1.2.1 x1.2.2.1 x1.2.2.2.1 x1.2.2.2.2.1) (ByteArray.mk #[105, 110, 112, 117, 116]) >>= fun v31 =>
 if v31 then (r03_Reader_name (r03_Reader.mk x1.1 (IntKind.i64.wrap (x1.2.1 + 1)) x1.2.2.1 x1.2.2.2.1 x1.2.2.2.2.1) >>= fun v32 =>
 r03_Reader_must v32.1 (ByteArray.mk #[59]) >>= fun v33 =>
 some (.inr (v33.L, v33.I, v33.End, v33.E, v33.At, (r02_Stmt.mk 7 v32.2 (ByteArray.mk #[]) (r02_Expr.mk 0 0 (ByteArray.mk #[]) []) (r02_Cond.mk 0 (r02_Expr.mk 0 0 (ByteArray.mk #[]) []) (r02_Expr.mk 0 0 (ByteArray.mk #[]) [])) [] [] []), [])))
 else (((if (decide (x1.2.1 < (x1.1.length : Int))) then (idx x1.1 x1.2.1 >>= fun v34 =>
 some (v34.Kind == 1))
 else (some false) : Option Bool) >>= fun j5 =>
 if j5 then (r03_Reader_name (r03_Reader.mk x1.1 x1.2.1 x1.2.2.1 x1.2.2.2.1 x1.2.2.2.2.1) >>= fun v35 =>
 r03_Reader_must v35.1 (ByteArray.mk #[61]) >>= fun v36 =>
 r03_Reader_expr v36 0 >>= fun v37 =>
 r03_Reader_must v37.1 (ByteArray.mk #[59]) >>= fun v38 =>
 some (.inr (v38.L, v38.I, v38.End, v38.E, v38.At, (r02_Stmt.mk 1 v35.2 (ByteArray.mk #[]) v37.2 (r02_Cond.mk 0 (r02_Expr.mk 0 0 (ByteArray.mk #[]) []) (r02_Expr.mk 0 0 (ByteArray.mk #[]) [])) [] [] []), [])))
 else (some (.inl ((r03_Reader.mk x1.1 x1.2.1 x1.2.2.1 x1.2.2.2.1 x1.2.2.2.2.1), x1.2.2.2.2.2)))))))))) : Option (Sum (r03_Reader × (List r02_Stmt)) ((List r01_Token) × Int × Int × Int × Int × r02_Stmt × (List r02_Arm)))) >>= Sum.elim (fun r => some (.inr (.inl r))) (fun j2 =>
 app 288 x1.2.2.2.2.2 [(r02_Stmt.mk j2.2.2.2.2.2.1.Kind j2.2.2.2.2.2.1.Name j2.2.2.2.2.2.1.Tag j2.2.2.2.2.2.1.E j2.2.2.2.2.2.1.C j2.2.2.2.2.2.1.Body j2.2.2.2.2.2.1.Else j2.2.2.2.2.2.2)] >>= fun v39 =>
 some (.inl (j2.1, j2.2.1, j2.2.2.1, j2.2.2.2.1, j2.2.2.2.2.1, v39)))))
 else (some (.inr (.inr (x1.1, x1.2.1, x1.2.2.1, x1.2.2.2.1, x1.2.2.2.2.1, x1.2.2.2.2.2))))

def r_r03_Reader_stmts (r : (r03_Reader × (List r02_Stmt))) : List XV := [xL (List.map e_r02_Stmt r.2)]

def o_r03_Reader_stmts (r : (r03_Reader × (List r02_Stmt))) : Store := [oB 89 (bs (e_r03_Reader r.1))]

noncomputable def R_r03_Reader_stmts (r : (r03_Reader × (List r02_Stmt))) : Tg := .r false Tryz.f31.results.toList 1 (r_r03_Reader_stmts r) (o_r03_Reader_stmts r)

def r_r03_Reader_block (r : (r03_Reader × (List r02_Stmt))) : List XV := [xL (List.map e_r02_Stmt r.2)]

def o_r03_Reader_block (r : (r03_Reader × (List r02_Stmt))) : Store := [oB 89 (bs (e_r03_Reader r.1))]

mutual
noncomputable def r03_Reader_stmtsN : Nat → r03_Reader → Int → Option (r03_Reader × (List r02_Stmt))
  | 0, _, _ => none
  | n + 1, a0, a1 => iter (r03_Reader_stmts_l1 (r03_Reader_stmtsN n) (r03_Reader_blockN n) a1) (a0.L, a0.I, a0.End, a0.E, a0.At, []) >>= Sum.elim (fun r => some r) (fun j1 =>
 some ((r03_Reader.mk j1.1 j1.2.1 j1.2.2.1 j1.2.2.2.1 j1.2.2.2.2.1), j1.2.2.2.2.2))
noncomputable def r03_Reader_blockN : Nat → r03_Reader → Int → Option (r03_Reader × (List r02_Stmt))
  | 0, _, _ => none
  | n + 1, a0, a1 => ((r03_Reader_is a0 (ByteArray.mk #[123]) >>= fun v1 =>
 if v1 then (some (decide (a1 ≥ 24)))
 else (some false) : Option Bool) >>= fun j1 =>
 if j1 then (r03_Reader_fail a0 6 >>= fun v2 =>
 some (v2, []))
 else (r03_Reader_must a0 (ByteArray.mk #[123]) >>= fun v3 =>
 (r03_Reader_stmtsN n) v3 (IntKind.i64.wrap (a1 + 1)) >>= fun v4 =>
 r03_Reader_must v4.1 (ByteArray.mk #[125]) >>= fun v5 =>
 some (v5, v4.2)))
end

noncomputable def r03_Reader_stmts (a0 : r03_Reader) (a1 : Int) : Option (r03_Reader × (List r02_Stmt)) := unf fun n => r03_Reader_stmtsN n a0 a1

noncomputable def r03_Parse_l1 (x1 : ((List r01_Token) × Int × Int × Int × Int × (List r02_Chan))) : Option (Sum ((List r01_Token) × Int × Int × Int × Int × (List r02_Chan)) (Sum (r02_System × Int × Int) ((List r01_Token) × Int × Int × Int × Int × (List r02_Chan)))) :=
 r03_Reader_is (r03_Reader.mk x1.1 x1.2.1 x1.2.2.1 x1.2.2.2.1 x1.2.2.2.2.1) (ByteArray.mk #[99, 104, 97, 110]) >>= fun v2 =>
 if v2 then (r03_Reader_channel (r03_Reader.mk x1.1 (IntKind.i64.wrap (x1.2.1 + 1)) x1.2.2.1 x1.2.2.2.1 x1.2.2.2.2.1) >>= fun v3 =>
 app 88 x1.2.2.2.2.2 [v3.2] >>= fun v4 =>
 some (.inl (v3.1.L, v3.1.I, v3.1.End, v3.1.E, v3.1.At, v4)))
 else (some (.inr (.inr (x1.1, x1.2.1, x1.2.2.1, x1.2.2.2.1, x1.2.2.2.2.1, x1.2.2.2.2.2))))

noncomputable def r03_Parse_l3 (x3 : ((List r01_Token) × Int × Int × Int × Int × (List r02_Move))) : Option (Sum ((List r01_Token) × Int × Int × Int × Int × (List r02_Move)) (Sum (r02_System × Int × Int) ((List r01_Token) × Int × Int × Int × Int × (List r02_Move)))) :=
 ((if (x3.2.2.2.1 == 0) then (r03_Reader_is (r03_Reader.mk x3.1 x3.2.1 x3.2.2.1 x3.2.2.2.1 x3.2.2.2.2.1) (ByteArray.mk #[125]) >>= fun v8 =>
 some (!v8))
 else (some false) : Option Bool) >>= fun j4 =>
 if j4 then (r03_Reader_number (r03_Reader.mk x3.1 x3.2.1 x3.2.2.1 x3.2.2.2.1 x3.2.2.2.2.1) >>= fun v9 =>
 r03_Reader_name v9.1 >>= fun v10 =>
 r03_Reader_number v10.1 >>= fun v11 =>
 r03_Reader_must v11.1 (ByteArray.mk #[59]) >>= fun v12 =>
 app 32 x3.2.2.2.2.2 [(r02_Move.mk v9.2 v10.2 v11.2)] >>= fun v13 =>
 some (.inl (v12.L, v12.I, v12.End, v12.E, v12.At, v13)))
 else (some (.inr (.inr (x3.1, x3.2.1, x3.2.2.1, x3.2.2.2.1, x3.2.2.2.2.1, x3.2.2.2.2.2)))))

noncomputable def r03_Parse_l2 (x2 : ((List r01_Token) × Int × Int × Int × Int × (List r02_Rule))) : Option (Sum ((List r01_Token) × Int × Int × Int × Int × (List r02_Rule)) (Sum (r02_System × Int × Int) ((List r01_Token) × Int × Int × Int × Int × (List r02_Rule)))) :=
 r03_Reader_is (r03_Reader.mk x2.1 x2.2.1 x2.2.2.1 x2.2.2.2.1 x2.2.2.2.2.1) (ByteArray.mk #[114, 117, 108, 101]) >>= fun v5 =>
 if v5 then (r03_Reader_name (r03_Reader.mk x2.1 (IntKind.i64.wrap (x2.2.1 + 1)) x2.2.2.1 x2.2.2.2.1 x2.2.2.2.2.1) >>= fun v6 =>
 r03_Reader_must v6.1 (ByteArray.mk #[123]) >>= fun v7 =>
 iter (r03_Parse_l3) (v7.L, v7.I, v7.End, v7.E, v7.At, []) >>= Sum.elim (fun _ => none) (fun j3 =>
 r03_Reader_must (r03_Reader.mk j3.1 j3.2.1 j3.2.2.1 j3.2.2.2.1 j3.2.2.2.2.1) (ByteArray.mk #[125]) >>= fun v14 =>
 app 40 x2.2.2.2.2.2 [(r02_Rule.mk v6.2 j3.2.2.2.2.2)] >>= fun v15 =>
 some (.inl (v14.L, v14.I, v14.End, v14.E, v14.At, v15))))
 else (some (.inr (.inr (x2.1, x2.2.1, x2.2.2.1, x2.2.2.2.1, x2.2.2.2.2.1, x2.2.2.2.2.2))))

noncomputable def r03_Parse_l6 (x6 : ((List r01_Token) × Int × Int × Int × Int × (List ByteArray))) : Option (Sum ((List r01_Token) × Int × Int × Int × Int × (List ByteArray)) (Sum (r02_System × Int × Int) ((List r01_Token) × Int × Int × Int × Int × (List ByteArray)))) :=
 r03_Reader_is (r03_Reader.mk x6.1 x6.2.1 x6.2.2.1 x6.2.2.2.1 x6.2.2.2.2.1) (ByteArray.mk #[118, 97, 114]) >>= fun v19 =>
 if v19 then (r03_Reader_name (r03_Reader.mk x6.1 (IntKind.i64.wrap (x6.2.1 + 1)) x6.2.2.1 x6.2.2.2.1 x6.2.2.2.2.1) >>= fun v20 =>
 app 16 x6.2.2.2.2.2 [v20.2] >>= fun v21 =>
 r03_Reader_must v20.1 (ByteArray.mk #[59]) >>= fun v22 =>
 some (.inl (v22.L, v22.I, v22.End, v22.E, v22.At, v21)))
 else (some (.inr (.inr (x6.1, x6.2.1, x6.2.2.1, x6.2.2.2.1, x6.2.2.2.2.1, x6.2.2.2.2.2))))

noncomputable def r03_Parse_l5 (x5 : ((List r01_Token) × Int × Int × Int × Int × (List r02_Proc))) : Option (Sum ((List r01_Token) × Int × Int × Int × Int × (List r02_Proc)) (Sum (r02_System × Int × Int) ((List r01_Token) × Int × Int × Int × Int × (List r02_Proc)))) :=
 r03_Reader_is (r03_Reader.mk x5.1 x5.2.1 x5.2.2.1 x5.2.2.2.1 x5.2.2.2.2.1) (ByteArray.mk #[112, 114, 111, 99]) >>= fun v16 =>
 if v16 then (r03_Reader_name (r03_Reader.mk x5.1 (IntKind.i64.wrap (x5.2.1 + 1)) x5.2.2.1 x5.2.2.2.1 x5.2.2.2.2.1) >>= fun v17 =>
 r03_Reader_must v17.1 (ByteArray.mk #[123]) >>= fun v18 =>
 iter (r03_Parse_l6) (v18.L, v18.I, v18.End, v18.E, v18.At, []) >>= Sum.elim (fun _ => none) (fun j6 =>
 r03_Reader_stmts (r03_Reader.mk j6.1 j6.2.1 j6.2.2.1 j6.2.2.2.1 j6.2.2.2.2.1) 0 >>= fun v23 =>
 r03_Reader_must v23.1 (ByteArray.mk #[125]) >>= fun v24 =>
 app 64 x5.2.2.2.2.2 [(r02_Proc.mk v17.2 j6.2.2.2.2.2 v23.2)] >>= fun v25 =>
 some (.inl (v24.L, v24.I, v24.End, v24.E, v24.At, v25))))
 else (some (.inr (.inr (x5.1, x5.2.1, x5.2.2.1, x5.2.2.2.1, x5.2.2.2.2.1, x5.2.2.2.2.2))))

noncomputable def r03_Parse (a0 : ByteArray) : Option (r02_System × Int × Int) :=
 r01_Lex a0 >>= fun v1 =>
 if (v1.2.2 != 0) then (some ((r02_System.mk [] [] []), v1.2.1, v1.2.2))
 else (iter (r03_Parse_l1) (v1.1, 0, (a0.size : Int), 0, 0, []) >>= Sum.elim (fun _ => none) (fun j1 =>
 iter (r03_Parse_l2) (j1.1, j1.2.1, j1.2.2.1, j1.2.2.2.1, j1.2.2.2.2.1, []) >>= Sum.elim (fun _ => none) (fun j2 =>
 iter (r03_Parse_l5) (j2.1, j2.2.1, j2.2.2.1, j2.2.2.2.1, j2.2.2.2.2.1, []) >>= Sum.elim (fun _ => none) (fun j5 =>
 if (decide (j5.2.1 < (j5.1.length : Int))) then (r03_Reader_fail (r03_Reader.mk j5.1 j5.2.1 j5.2.2.1 j5.2.2.2.1 j5.2.2.2.2.1) 5 >>= fun v26 =>
 if (v26.E != 0) then (some ((r02_System.mk [] [] []), v26.At, v26.E))
 else (some ((r02_System.mk j1.2.2.2.2.2 j2.2.2.2.2.2 j5.2.2.2.2.2), 0, 0)))
 else (if (j5.2.2.2.1 != 0) then (some ((r02_System.mk [] [] []), j5.2.2.2.2.1, j5.2.2.2.1))
 else (some ((r02_System.mk j1.2.2.2.2.2 j2.2.2.2.2.2 j5.2.2.2.2.2), 0, 0)))))))

def r_r03_Parse (r : (r02_System × Int × Int)) : List XV := [.agg (bs (e_r02_System r.1)), xI r.2.1, xI r.2.2]

def o_r03_Parse (r : (r02_System × Int × Int)) : Store := []

noncomputable def R_r03_Parse (r : (r02_System × Int × Int)) : Tg := .r false Tryz.f10.results.toList 0 (r_r03_Parse r) (o_r03_Parse r)

noncomputable def l03_parses : Option Bool :=
 parse_Parse (ByteArray.mk #[112, 114, 111, 99, 32, 112, 32, 123, 32, 120, 32, 61, 32, 49, 32, 43, 32, 50, 32, 42, 32, 51, 32, 59, 32, 125]) >>= fun v1 =>
 parse_Parse (ByteArray.mk #[112, 114, 111, 99, 32, 112]) >>= fun v2 =>
 ((if (v1.2.2 == 0) then (if ((v1.1.Procs.length : Int) == 1) then (idx v1.1.Procs 0 >>= fun v3 =>
 if ((v3.Body.length : Int) == 1) then (idx v1.1.Procs 0 >>= fun v4 =>
 idx v4.Body 0 >>= fun v5 =>
 if (v5.E.Kind == 4) then (idx v1.1.Procs 0 >>= fun v6 =>
 idx v6.Body 0 >>= fun v7 =>
 if ((v7.E.Kids.length : Int) == 2) then (idx v1.1.Procs 0 >>= fun v8 =>
 idx v8.Body 0 >>= fun v9 =>
 idx v9.E.Kids 1 >>= fun v10 =>
 if (v10.Kind == 6) then (if (v2.2.2 == 5) then (some (v2.2.1 == 6))
 else (some false))
 else (some false))
 else (some false))
 else (some false))
 else (some false))
 else (some false))
 else (some false) : Option Bool) >>= fun j1 =>
 some j1)

def r_l03_parses (r : Bool) : List XV := [xB r]

def o_l03_parses (r : Bool) : Store := []

noncomputable def l02_Expr_l1 (F_l02_Expr : r02_Expr → Option ast_Expr) (a0 : r02_Expr) (x1 : (Int × (List ast_Expr))) : Option (Sum (Int × (List ast_Expr)) (Sum ast_Expr (List ast_Expr))) :=
 if (decide (x1.1 < (a0.Kids.length : Int))) then (idx a0.Kids x1.1 >>= fun v1 =>
 F_l02_Expr v1 >>= fun v2 =>
 app 56 x1.2 [v2] >>= fun v3 =>
 some (.inl ((IntKind.i64.wrap (x1.1 + 1)), v3)))
 else (some (.inr (.inr x1.2)))

def r_l02_Expr (r : ast_Expr) : List XV := [.agg (bs (f_ast_Expr r))]

def o_l02_Expr (r : ast_Expr) : Store := []

noncomputable def R_l02_Expr (r : ast_Expr) : Tg := .r false Tryz.f73.results.toList 0 (r_l02_Expr r) (o_l02_Expr r)

noncomputable def l02_ExprN : Nat → r02_Expr → Option ast_Expr
  | 0, _ => none
  | n + 1, a0 => iter (l02_Expr_l1 (l02_ExprN n) a0) (0, []) >>= Sum.elim (fun _ => none) (fun j1 =>
 some (ast_Expr.mk a0.Kind a0.Num a0.Name j1))

noncomputable def l02_Expr (a0 : r02_Expr) : Option ast_Expr := unf fun n => l02_ExprN n a0

noncomputable def l02_Cond (a0 : r02_Cond) : Option ast_Cond :=
 l02_Expr a0.L >>= fun v1 =>
 l02_Expr a0.R >>= fun v2 =>
 some (ast_Cond.mk a0.Op v1 v2)

def r_l02_Cond (r : ast_Cond) : List XV := [.agg (bs (e_ast_Cond r))]

def o_l02_Cond (r : ast_Cond) : Store := []

noncomputable def l02_Stmts_l2 (F_l02_Stmts : (List r02_Stmt) → Option (List ast_Stmt)) (v1 : r02_Stmt) (x2 : (Int × (List ast_Arm))) : Option (Sum (Int × (List ast_Arm)) (Sum (List ast_Stmt) (List ast_Arm))) :=
 if (decide (x2.1 < (v1.Arms.length : Int))) then (idx v1.Arms x2.1 >>= fun v6 =>
 F_l02_Stmts v6.Body >>= fun v7 =>
 app 56 x2.2 [(ast_Arm.mk v6.Tag v6.Var v7)] >>= fun v8 =>
 some (.inl ((IntKind.i64.wrap (x2.1 + 1)), v8)))
 else (some (.inr (.inr x2.2)))

noncomputable def l02_Stmts_l1 (F_l02_Stmts : (List r02_Stmt) → Option (List ast_Stmt)) (a0 : (List r02_Stmt)) (x1 : (Int × (List ast_Stmt))) : Option (Sum (Int × (List ast_Stmt)) (Sum (List ast_Stmt) (List ast_Stmt))) :=
 if (decide (x1.1 < (a0.length : Int))) then (idx a0 x1.1 >>= fun v1 =>
 l02_Expr v1.E >>= fun v2 =>
 l02_Cond v1.C >>= fun v3 =>
 F_l02_Stmts v1.Body >>= fun v4 =>
 F_l02_Stmts v1.Else >>= fun v5 =>
 iter (l02_Stmts_l2 F_l02_Stmts v1) (0, []) >>= Sum.elim (fun _ => none) (fun j2 =>
 app 288 x1.2 [(ast_Stmt.mk v1.Kind v1.Name v1.Tag v2 v3 v4 v5 j2)] >>= fun v9 =>
 some (.inl ((IntKind.i64.wrap (x1.1 + 1)), v9))))
 else (some (.inr (.inr x1.2)))

def r_l02_Stmts (r : (List ast_Stmt)) : List XV := [xL (List.map e_ast_Stmt r)]

def o_l02_Stmts (r : (List ast_Stmt)) : Store := []

noncomputable def R_l02_Stmts (r : (List ast_Stmt)) : Tg := .r false Tryz.f43.results.toList 0 (r_l02_Stmts r) (o_l02_Stmts r)

noncomputable def l02_StmtsN : Nat → (List r02_Stmt) → Option (List ast_Stmt)
  | 0, _ => none
  | n + 1, a0 => iter (l02_Stmts_l1 (l02_StmtsN n) a0) (0, []) >>= Sum.elim (fun _ => none) (fun j1 =>
 some j1)

noncomputable def l02_Stmts (a0 : (List r02_Stmt)) : Option (List ast_Stmt) := unf fun n => l02_StmtsN n a0

noncomputable def l02_System_l1 (a0 : r02_System) (x1 : (Int × (List ast_Chan))) : Option (Sum (Int × (List ast_Chan)) (Sum ast_System (List ast_Chan))) :=
 if (decide (x1.1 < (a0.Chans.length : Int))) then (idx a0.Chans x1.1 >>= fun v1 =>
 app 16 [] v1.Tags >>= fun v2 =>
 app 88 x1.2 [(ast_Chan.mk v1.Name v1.Kind v1.Size v1.From v1.To v2)] >>= fun v3 =>
 some (.inl ((IntKind.i64.wrap (x1.1 + 1)), v3)))
 else (some (.inr (.inr x1.2)))

noncomputable def l02_System_l3 (a0 : r02_System) (x2 : (Int × (List ast_Rule))) (x3 : (Int × (List ast_Move))) : Option (Sum (Int × (List ast_Move)) (Sum ast_System (List ast_Move))) :=
 idx a0.Rules x2.1 >>= fun v5 =>
 if (decide (x3.1 < (v5.Moves.length : Int))) then (idx a0.Rules x2.1 >>= fun v6 =>
 idx v6.Moves x3.1 >>= fun v7 =>
 app 32 x3.2 [(ast_Move.mk v7.From v7.Tag v7.To)] >>= fun v8 =>
 some (.inl ((IntKind.i64.wrap (x3.1 + 1)), v8)))
 else (some (.inr (.inr x3.2)))

noncomputable def l02_System_l2 (a0 : r02_System) (x2 : (Int × (List ast_Rule))) : Option (Sum (Int × (List ast_Rule)) (Sum ast_System (List ast_Rule))) :=
 if (decide (x2.1 < (a0.Rules.length : Int))) then (idx a0.Rules x2.1 >>= fun v4 =>
 iter (l02_System_l3 a0 x2) (0, []) >>= Sum.elim (fun _ => none) (fun j3 =>
 app 40 x2.2 [(ast_Rule.mk v4.Chan j3)] >>= fun v9 =>
 some (.inl ((IntKind.i64.wrap (x2.1 + 1)), v9))))
 else (some (.inr (.inr x2.2)))

noncomputable def l02_System_l4 (a0 : r02_System) (x4 : (Int × (List ast_Proc))) : Option (Sum (Int × (List ast_Proc)) (Sum ast_System (List ast_Proc))) :=
 if (decide (x4.1 < (a0.Procs.length : Int))) then (idx a0.Procs x4.1 >>= fun v10 =>
 app 16 [] v10.Vars >>= fun v11 =>
 l02_Stmts v10.Body >>= fun v12 =>
 app 64 x4.2 [(ast_Proc.mk v10.Name v11 v12)] >>= fun v13 =>
 some (.inl ((IntKind.i64.wrap (x4.1 + 1)), v13)))
 else (some (.inr (.inr x4.2)))

noncomputable def l02_System (a0 : r02_System) : Option ast_System :=
 iter (l02_System_l1 a0) (0, []) >>= Sum.elim (fun _ => none) (fun j1 =>
 iter (l02_System_l2 a0) (0, []) >>= Sum.elim (fun _ => none) (fun j2 =>
 iter (l02_System_l4 a0) (0, []) >>= Sum.elim (fun _ => none) (fun j4 =>
 some (ast_System.mk j1 j2 j4))))

def r_l02_System (r : ast_System) : List XV := [.agg (bs (e_ast_System r))]

def o_l02_System (r : ast_System) : Store := []

noncomputable def R_l02_System (r : ast_System) : Tg := .r false Tryz.f13.results.toList 0 (r_l02_System r) (o_l02_System r)

noncomputable def ast_Move__l1 (a0 : (List ast_Move)) (a1 : (List ast_Move)) (x1 : Int) : Option (Sum Int (Sum Bool Unit)) :=
 if (decide (x1 < (a0.length : Int))) then (idx a0 x1 >>= fun v1 =>
 idx a1 x1 >>= fun v2 =>
 if (!((v1.From : Int) == v2.From && (v1.Tag.toList == v2.Tag.toList && ((v1.To : Int) == v2.To && true)))) then (some (.inr (.inl false)))
 else (some (.inl (IntKind.i64.wrap (x1 + 1)))))
 else (some (.inr (.inr ())))

noncomputable def ast_Move_ (a0 : (List ast_Move)) (a1 : (List ast_Move)) : Option Bool :=
 if ((a0.length : Int) != (a1.length : Int)) then (some false)
 else (iter (ast_Move__l1 a0 a1) 0 >>= Sum.elim (fun r => some r) (fun j1 =>
 some true))

def r_ast_Move_ (r : Bool) : List XV := [xB r]

def o_ast_Move_ (r : Bool) : Store := []

noncomputable def R_ast_Move_ (r : Bool) : Tg := .r false Tryz.f35.results.toList 0 (r_ast_Move_ r) (o_ast_Move_ r)

noncomputable def ast_Same_1 (a0 : ast_Rule) (a1 : ast_Rule) : Option Bool :=
 if (a0.Chan.toList == a1.Chan.toList) then (ast_Move_ a0.Moves a1.Moves >>= fun v1 =>
 some v1)
 else (some false)

def r_ast_Same_1 (r : Bool) : List XV := [xB r]

def o_ast_Same_1 (r : Bool) : Store := []

noncomputable def ast_Rule__ast_Same_1_l1 (a0 : (List ast_Rule)) (a1 : (List ast_Rule)) (x1 : Int) : Option (Sum Int (Sum Bool Unit)) :=
 if (decide (x1 < (a0.length : Int))) then (idx a0 x1 >>= fun v1 =>
 idx a1 x1 >>= fun v2 =>
 ast_Same_1 v1 v2 >>= fun v3 =>
 if (!v3) then (some (.inr (.inl false)))
 else (some (.inl (IntKind.i64.wrap (x1 + 1)))))
 else (some (.inr (.inr ())))

noncomputable def ast_Rule__ast_Same_1 (a0 : (List ast_Rule)) (a1 : (List ast_Rule)) : Option Bool :=
 if ((a0.length : Int) != (a1.length : Int)) then (some false)
 else (iter (ast_Rule__ast_Same_1_l1 a0 a1) 0 >>= Sum.elim (fun r => some r) (fun j1 =>
 some true))

def r_ast_Rule__ast_Same_1 (r : Bool) : List XV := [xB r]

def o_ast_Rule__ast_Same_1 (r : Bool) : Store := []

noncomputable def R_ast_Rule__ast_Same_1 (r : Bool) : Tg := .r false Tryz.f33.results.toList 0 (r_ast_Rule__ast_Same_1 r) (o_ast_Rule__ast_Same_1 r)

noncomputable def slices_Equal_string_string__l1 (a0 : (List ByteArray)) (a1 : (List ByteArray)) (x1 : Int) : Option (Sum Int (Sum Bool Unit)) :=
 if (decide (x1 < (a0.length : Int))) then (idx a0 x1 >>= fun v1 =>
 idx a1 x1 >>= fun v2 =>
 if (!(v1.toList == v2.toList)) then (some (.inr (.inl false)))
 else (some (.inl (IntKind.i64.wrap (x1 + 1)))))
 else (some (.inr (.inr ())))

noncomputable def slices_Equal_string_string_ (a0 : (List ByteArray)) (a1 : (List ByteArray)) : Option Bool :=
 if ((a0.length : Int) != (a1.length : Int)) then (some false)
 else (iter (slices_Equal_string_string__l1 a0 a1) 0 >>= Sum.elim (fun r => some r) (fun j1 =>
 some true))

def r_slices_Equal_string_string_ (r : Bool) : List XV := [xB r]

def o_slices_Equal_string_string_ (r : Bool) : Store := []

noncomputable def R_slices_Equal_string_string_ (r : Bool) : Tg := .r false Tryz.f38.results.toList 0 (r_slices_Equal_string_string_ r) (o_slices_Equal_string_string_ r)

def r_ast_sameExpr (r : Bool) : List XV := [xB r]

def o_ast_sameExpr (r : Bool) : Store := []

noncomputable def ast_Expr__ast_sameExpr_l1 (F_ast_sameExpr : ast_Expr → ast_Expr → Option Bool) (F_ast_Expr__ast_sameExpr : (List ast_Expr) → (List ast_Expr) → Option Bool) (a0 : (List ast_Expr)) (a1 : (List ast_Expr)) (x1 : Int) : Option (Sum Int (Sum Bool Unit)) :=
 if (decide (x1 < (a0.length : Int))) then (idx a0 x1 >>= fun v1 =>
 idx a1 x1 >>= fun v2 =>
 F_ast_sameExpr v1 v2 >>= fun v3 =>
 if (!v3) then (some (.inr (.inl false)))
 else (some (.inl (IntKind.i64.wrap (x1 + 1)))))
 else (some (.inr (.inr ())))

def r_ast_Expr__ast_sameExpr (r : Bool) : List XV := [xB r]

def o_ast_Expr__ast_sameExpr (r : Bool) : Store := []

noncomputable def R_ast_Expr__ast_sameExpr (r : Bool) : Tg := .r false Tryz.f101.results.toList 0 (r_ast_Expr__ast_sameExpr r) (o_ast_Expr__ast_sameExpr r)

mutual
noncomputable def ast_sameExprN : Nat → ast_Expr → ast_Expr → Option Bool
  | 0, _, _ => none
  | n + 1, a0, a1 => ((if (a0.Kind != a1.Kind) then (some true)
 else (if (a0.Kind == 1) then (if (a0.Num != a1.Num) then (some true)
 else (if (a0.Kind == 2) then (some (!(a0.Name.toList == a1.Name.toList)))
 else (some false)))
 else (if (a0.Kind == 2) then (some (!(a0.Name.toList == a1.Name.toList)))
 else (some false))) : Option Bool) >>= fun j1 =>
 if j1 then (some false)
 else ((ast_Expr__ast_sameExprN n) a0.Kids a1.Kids >>= fun v1 =>
 some v1))
noncomputable def ast_Expr__ast_sameExprN : Nat → (List ast_Expr) → (List ast_Expr) → Option Bool
  | 0, _, _ => none
  | n + 1, a0, a1 => if ((a0.length : Int) != (a1.length : Int)) then (some false)
 else (iter (ast_Expr__ast_sameExpr_l1 (ast_sameExprN n) (ast_Expr__ast_sameExprN n) a0 a1) 0 >>= Sum.elim (fun r => some r) (fun j1 =>
 some true))
end

noncomputable def ast_sameExpr (a0 : ast_Expr) (a1 : ast_Expr) : Option Bool := unf fun n => ast_sameExprN n a0 a1

noncomputable def ast_sameCond (a0 : ast_Cond) (a1 : ast_Cond) : Option Bool :=
 if (a0.Op == a1.Op) then (ast_sameExpr a0.L a1.L >>= fun v1 =>
 if v1 then (ast_sameExpr a0.R a1.R >>= fun v2 =>
 some v2)
 else (some false))
 else (some false)

def r_ast_sameCond (r : Bool) : List XV := [xB r]

def o_ast_sameCond (r : Bool) : Store := []

noncomputable def ast_Stmt__ast_sameStmt_l1 (F_ast_Stmt__ast_sameStmt : (List ast_Stmt) → (List ast_Stmt) → Option Bool) (F_ast_sameStmt : ast_Stmt → ast_Stmt → Option Bool) (F_ast_Arm__ast_sameArm : (List ast_Arm) → (List ast_Arm) → Option Bool) (F_ast_sameArm : ast_Arm → ast_Arm → Option Bool) (a0 : (List ast_Stmt)) (a1 : (List ast_Stmt)) (x1 : Int) : Option (Sum Int (Sum Bool Unit)) :=
 if (decide (x1 < (a0.length : Int))) then (idx a0 x1 >>= fun v1 =>
 idx a1 x1 >>= fun v2 =>
 F_ast_sameStmt v1 v2 >>= fun v3 =>
 if (!v3) then (some (.inr (.inl false)))
 else (some (.inl (IntKind.i64.wrap (x1 + 1)))))
 else (some (.inr (.inr ())))

def r_ast_Stmt__ast_sameStmt (r : Bool) : List XV := [xB r]

def o_ast_Stmt__ast_sameStmt (r : Bool) : Store := []

noncomputable def R_ast_Stmt__ast_sameStmt (r : Bool) : Tg := .r false Tryz.f39.results.toList 0 (r_ast_Stmt__ast_sameStmt r) (o_ast_Stmt__ast_sameStmt r)

def r_ast_sameStmt (r : Bool) : List XV := [xB r]

def o_ast_sameStmt (r : Bool) : Store := []

noncomputable def ast_Arm__ast_sameArm_l1 (F_ast_Stmt__ast_sameStmt : (List ast_Stmt) → (List ast_Stmt) → Option Bool) (F_ast_sameStmt : ast_Stmt → ast_Stmt → Option Bool) (F_ast_Arm__ast_sameArm : (List ast_Arm) → (List ast_Arm) → Option Bool) (F_ast_sameArm : ast_Arm → ast_Arm → Option Bool) (a0 : (List ast_Arm)) (a1 : (List ast_Arm)) (x1 : Int) : Option (Sum Int (Sum Bool Unit)) :=
 if (decide (x1 < (a0.length : Int))) then (idx a0 x1 >>= fun v1 =>
 idx a1 x1 >>= fun v2 =>
 F_ast_sameArm v1 v2 >>= fun v3 =>
 if (!v3) then (some (.inr (.inl false)))
 else (some (.inl (IntKind.i64.wrap (x1 + 1)))))
 else (some (.inr (.inr ())))

def r_ast_Arm__ast_sameArm (r : Bool) : List XV := [xB r]

def o_ast_Arm__ast_sameArm (r : Bool) : Store := []

noncomputable def R_ast_Arm__ast_sameArm (r : Bool) : Tg := .r false Tryz.f71.results.toList 0 (r_ast_Arm__ast_sameArm r) (o_ast_Arm__ast_sameArm r)

def r_ast_sameArm (r : Bool) : List XV := [xB r]

def o_ast_sameArm (r : Bool) : Store := []

mutual
noncomputable def ast_Stmt__ast_sameStmtN : Nat → (List ast_Stmt) → (List ast_Stmt) → Option Bool
  | 0, _, _ => none
  | n + 1, a0, a1 => if ((a0.length : Int) != (a1.length : Int)) then (some false)
 else (iter (ast_Stmt__ast_sameStmt_l1 (ast_Stmt__ast_sameStmtN n) (ast_sameStmtN n) (ast_Arm__ast_sameArmN n) (ast_sameArmN n) a0 a1) 0 >>= Sum.elim (fun r => some r) (fun j1 =>
 some true))
noncomputable def ast_sameStmtN : Nat → ast_Stmt → ast_Stmt → Option Bool
  | 0, _, _ => none
  | n + 1, a0, a1 => if (a0.Kind != a1.Kind) then (some false)
 else (if (a0.Kind == 1) then (((if (a0.Name.toList == a1.Name.toList) then (ast_sameExpr a0.E a1.E >>= fun v1 =>
 some v1)
 else (some false) : Option Bool) >>= fun j1 =>
 some j1))
 else (if (a0.Kind == 2) then (((ast_sameCond a0.C a1.C >>= fun v2 =>
 if v2 then ((ast_Stmt__ast_sameStmtN n) a0.Body a1.Body >>= fun v3 =>
 if v3 then ((ast_Stmt__ast_sameStmtN n) a0.Else a1.Else >>= fun v4 =>
 some v4)
 else (some false))
 else (some false) : Option Bool) >>= fun j2 =>
 some j2))
 else (if (a0.Kind == 3) then (((ast_sameCond a0.C a1.C >>= fun v5 =>
 if v5 then ((ast_Stmt__ast_sameStmtN n) a0.Body a1.Body >>= fun v6 =>
 some v6)
 else (some false) : Option Bool) >>= fun j3 =>
 some j3))
 else (if (a0.Kind == 4) then (((if (a0.Name.toList == a1.Name.toList) then (if (a0.Tag.toList == a1.Tag.toList) then (ast_sameExpr a0.E a1.E >>= fun v7 =>
 some v7)
 else (some false))
 else (some false) : Option Bool) >>= fun j4 =>
 some j4))
 else (if (a0.Kind == 5) then (((if (a0.Name.toList == a1.Name.toList) then ((ast_Arm__ast_sameArmN n) a0.Arms a1.Arms >>= fun v8 =>
 some v8)
 else (some false) : Option Bool) >>= fun j5 =>
 some j5))
 else (if (a0.Kind == 6) then (ast_sameCond a0.C a1.C >>= fun v9 =>
 some v9)
 else (if (a0.Kind == 7) then (some (a0.Name.toList == a1.Name.toList))
 else (some true))))))))
noncomputable def ast_Arm__ast_sameArmN : Nat → (List ast_Arm) → (List ast_Arm) → Option Bool
  | 0, _, _ => none
  | n + 1, a0, a1 => if ((a0.length : Int) != (a1.length : Int)) then (some false)
 else (iter (ast_Arm__ast_sameArm_l1 (ast_Stmt__ast_sameStmtN n) (ast_sameStmtN n) (ast_Arm__ast_sameArmN n) (ast_sameArmN n) a0 a1) 0 >>= Sum.elim (fun r => some r) (fun j1 =>
 some true))
noncomputable def ast_sameArmN : Nat → ast_Arm → ast_Arm → Option Bool
  | 0, _, _ => none
  | n + 1, a0, a1 => if (a0.Tag.toList == a1.Tag.toList) then (if (a0.Var.toList == a1.Var.toList) then ((ast_Stmt__ast_sameStmtN n) a0.Body a1.Body >>= fun v1 =>
 some v1)
 else (some false))
 else (some false)
end

noncomputable def ast_Stmt__ast_sameStmt (a0 : (List ast_Stmt)) (a1 : (List ast_Stmt)) : Option Bool := unf fun n => ast_Stmt__ast_sameStmtN n a0 a1

noncomputable def ast_Same_2 (a0 : ast_Proc) (a1 : ast_Proc) : Option Bool :=
 if (a0.Name.toList == a1.Name.toList) then (slices_Equal_string_string_ a0.Vars a1.Vars >>= fun v1 =>
 if v1 then (ast_Stmt__ast_sameStmt a0.Body a1.Body >>= fun v2 =>
 some v2)
 else (some false))
 else (some false)

def r_ast_Same_2 (r : Bool) : List XV := [xB r]

def o_ast_Same_2 (r : Bool) : Store := []

noncomputable def ast_Proc__ast_Same_2_l1 (a0 : (List ast_Proc)) (a1 : (List ast_Proc)) (x1 : Int) : Option (Sum Int (Sum Bool Unit)) :=
 if (decide (x1 < (a0.length : Int))) then (idx a0 x1 >>= fun v1 =>
 idx a1 x1 >>= fun v2 =>
 ast_Same_2 v1 v2 >>= fun v3 =>
 if (!v3) then (some (.inr (.inl false)))
 else (some (.inl (IntKind.i64.wrap (x1 + 1)))))
 else (some (.inr (.inr ())))

noncomputable def ast_Proc__ast_Same_2 (a0 : (List ast_Proc)) (a1 : (List ast_Proc)) : Option Bool :=
 if ((a0.length : Int) != (a1.length : Int)) then (some false)
 else (iter (ast_Proc__ast_Same_2_l1 a0 a1) 0 >>= Sum.elim (fun r => some r) (fun j1 =>
 some true))

def r_ast_Proc__ast_Same_2 (r : Bool) : List XV := [xB r]

def o_ast_Proc__ast_Same_2 (r : Bool) : Store := []

noncomputable def R_ast_Proc__ast_Same_2 (r : Bool) : Tg := .r false Tryz.f36.results.toList 0 (r_ast_Proc__ast_Same_2 r) (o_ast_Proc__ast_Same_2 r)

noncomputable def ast_sameChan (a0 : ast_Chan) (a1 : ast_Chan) : Option Bool :=
 ((if (a0.Name.toList == a1.Name.toList) then (if (a0.Kind == a1.Kind) then (if (a0.Size == a1.Size) then (if (a0.From.toList == a1.From.toList) then (if (a0.To.toList == a1.To.toList) then (slices_Equal_string_string_ a0.Tags a1.Tags >>= fun v1 =>
 some v1)
 else (some false))
 else (some false))
 else (some false))
 else (some false))
 else (some false) : Option Bool) >>= fun j1 =>
 some j1)

def r_ast_sameChan (r : Bool) : List XV := [xB r]

def o_ast_sameChan (r : Bool) : Store := []

noncomputable def ast_Chan__ast_sameChan_l1 (a0 : (List ast_Chan)) (a1 : (List ast_Chan)) (x1 : Int) : Option (Sum Int (Sum Bool Unit)) :=
 if (decide (x1 < (a0.length : Int))) then (idx a0 x1 >>= fun v1 =>
 idx a1 x1 >>= fun v2 =>
 ast_sameChan v1 v2 >>= fun v3 =>
 if (!v3) then (some (.inr (.inl false)))
 else (some (.inl (IntKind.i64.wrap (x1 + 1)))))
 else (some (.inr (.inr ())))

noncomputable def ast_Chan__ast_sameChan (a0 : (List ast_Chan)) (a1 : (List ast_Chan)) : Option Bool :=
 if ((a0.length : Int) != (a1.length : Int)) then (some false)
 else (iter (ast_Chan__ast_sameChan_l1 a0 a1) 0 >>= Sum.elim (fun r => some r) (fun j1 =>
 some true))

def r_ast_Chan__ast_sameChan (r : Bool) : List XV := [xB r]

def o_ast_Chan__ast_sameChan (r : Bool) : Store := []

noncomputable def R_ast_Chan__ast_sameChan (r : Bool) : Tg := .r false Tryz.f41.results.toList 0 (r_ast_Chan__ast_sameChan r) (o_ast_Chan__ast_sameChan r)

noncomputable def ast_Same (a0 : ast_System) (a1 : ast_System) : Option Bool :=
 ast_Rule__ast_Same_1 a0.Rules a1.Rules >>= fun v1 =>
 ast_Proc__ast_Same_2 a0.Procs a1.Procs >>= fun v2 =>
 if v1 then (if v2 then (ast_Chan__ast_sameChan a0.Chans a1.Chans >>= fun v3 =>
 some v3)
 else (some false))
 else (some false)

def r_ast_Same (r : Bool) : List XV := [xB r]

def o_ast_Same (r : Bool) : Store := []

noncomputable def l03_ParseReads (a0 : ByteArray) : Option Bool :=
 ssub a0 0 (min (a0.size : Int) 600) >>= fun v1 =>
 parse_Parse v1 >>= fun v2 =>
 r03_Parse v1 >>= fun v3 =>
 l03_parses >>= fun v4 =>
 if v4 then (if (v2.2.1 == v3.2.1) then (if (v2.2.2 == v3.2.2) then (l02_System v3.1 >>= fun v5 =>
 ast_Same v2.1 v5 >>= fun v6 =>
 some v6)
 else (some false))
 else (some false))
 else (some false)

def r_l03_ParseReads (r : Bool) : List XV := [xB r]

def o_l03_ParseReads (r : Bool) : Store := []

end Go.Proofs.YtokjbpmjdcbogaaGreatDoor.Abs
