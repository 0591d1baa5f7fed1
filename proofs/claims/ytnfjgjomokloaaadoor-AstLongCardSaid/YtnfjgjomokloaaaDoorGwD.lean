/- Gw: the functions, told by typed values. -/
import Derived.Test.YtnfjgjomokloaaaDoorHandT
import Derived.Test.YtnfjgjomokloaaaDoorEvH
import Derived.Test.YtnfjgjomokloaaaDoorProg
namespace Go.Proofs.YtnfjgjomokloaaaDoor.Abs
open Go Go.RowKit
set_option linter.unusedVariables false

structure z07 where
 Kind : Int
 Num : Int
 Name : ByteArray
 Kids : (List z07)
structure z1u where
 Op : Int
 L : z07
 R : z07
mutual
inductive z2y where
 | mk (Tag : ByteArray) (Var : ByteArray) (Body : (List z0c))
inductive z0c where
 | mk (Kind : Int) (Name : ByteArray) (Tag : ByteArray) (E : z07) (C : z1u) (Body : (List z0c)) (Else : (List z0c)) (Arms : (List z2y))
end
def z2y.Tag : z2y → ByteArray
 | .mk x _ _ => x
def z2y.Var : z2y → ByteArray
 | .mk _ x _ => x
def z2y.Body : z2y → (List z0c)
 | .mk _ _ x => x
def z0c.Kind : z0c → Int
 | .mk x _ _ _ _ _ _ _ => x
def z0c.Name : z0c → ByteArray
 | .mk _ x _ _ _ _ _ _ => x
def z0c.Tag : z0c → ByteArray
 | .mk _ _ x _ _ _ _ _ => x
def z0c.E : z0c → z07
 | .mk _ _ _ x _ _ _ _ => x
def z0c.C : z0c → z1u
 | .mk _ _ _ _ x _ _ _ => x
def z0c.Body : z0c → (List z0c)
 | .mk _ _ _ _ _ x _ _ => x
def z0c.Else : z0c → (List z0c)
 | .mk _ _ _ _ _ _ x _ => x
def z0c.Arms : z0c → (List z2y)
 | .mk _ _ _ _ _ _ _ x => x
structure zbc where
 Name : ByteArray
 Kind : Int
 Size : Int
 From : ByteArray
 To : ByteArray
 Tags : (List ByteArray)
structure zbd where
 From : Int
 Tag : ByteArray
 To : Int
structure zbe where
 Chan : ByteArray
 Moves : (List zbd)
structure z5u where
 Name : ByteArray
 Vars : (List ByteArray)
 Body : (List z0c)
structure z1z where
 Name : ByteArray
 Kind : Int
 Size : Int
 From : ByteArray
 To : ByteArray
 Tags : (List ByteArray)
structure z39 where
 From : Int
 Tag : ByteArray
 To : Int
structure z27 where
 Chan : ByteArray
 Moves : (List z39)
structure z06 where
 Kind : Int
 Num : Int
 Name : ByteArray
 Kids : (List z06)
structure z2q where
 Op : Int
 L : z06
 R : z06
mutual
inductive z19 where
 | mk (Tag : ByteArray) (Var : ByteArray) (Body : (List z05))
inductive z05 where
 | mk (Kind : Int) (Name : ByteArray) (Tag : ByteArray) (E : z06) (C : z2q) (Body : (List z05)) (Else : (List z05)) (Arms : (List z19))
end
def z19.Tag : z19 → ByteArray
 | .mk x _ _ => x
def z19.Var : z19 → ByteArray
 | .mk _ x _ => x
def z19.Body : z19 → (List z05)
 | .mk _ _ x => x
def z05.Kind : z05 → Int
 | .mk x _ _ _ _ _ _ _ => x
def z05.Name : z05 → ByteArray
 | .mk _ x _ _ _ _ _ _ => x
def z05.Tag : z05 → ByteArray
 | .mk _ _ x _ _ _ _ _ => x
def z05.E : z05 → z06
 | .mk _ _ _ x _ _ _ _ => x
def z05.C : z05 → z2q
 | .mk _ _ _ _ x _ _ _ => x
def z05.Body : z05 → (List z05)
 | .mk _ _ _ _ _ x _ _ => x
def z05.Else : z05 → (List z05)
 | .mk _ _ _ _ _ _ x _ => x
def z05.Arms : z05 → (List z19)
 | .mk _ _ _ _ _ _ _ x => x
structure z2b where
 Name : ByteArray
 Vars : (List ByteArray)
 Body : (List z05)
mutual
def z18 : z07 → List PV
 | .mk z_Kind z_Num z_Name z_Kids => [.int .i64 z_Kind, .int .i64 z_Num, .str z_Name, .sl (z59 z_Kids)]
def z59 : List z07 → List (List PV)
 | [] => []
 | x :: xs => z18 x :: z59 xs
end
theorem z6a : ∀ l, z59 l = List.map z18 l
 | [] => rfl
 | x :: xs => by rw [z59, z6a xs]; rfl
theorem z43 (x : z07) : z18 x = [.int .i64 x.Kind, .int .i64 x.Num, .str x.Name, .sl (List.map z18 x.Kids)] := by
 cases x; rw [z18, z6a]
mutual
def z4y : z2y → List PV
 | .mk z_Tag z_Var z_Body => [.str z_Tag, .str z_Var, .sl (z2z z_Body)]
def z4z : List z2y → List (List PV)
 | [] => []
 | x :: xs => z4y x :: z4z xs
def z0u : z0c → List PV
 | .mk z_Kind z_Name z_Tag z_E z_C z_Body z_Else z_Arms => [.int .i64 z_Kind, .str z_Name, .str z_Tag, .int .i64 z_E.Kind, .int .i64 z_E.Num, .str z_E.Name, .sl (List.map z18 z_E.Kids), .int .i64 z_C.Op, .int .i64 z_C.L.Kind, .int .i64 z_C.L.Num, .str z_C.L.Name, .sl (List.map z18 z_C.L.Kids), .int .i64 z_C.R.Kind, .int .i64 z_C.R.Num, .str z_C.R.Name, .sl (List.map z18 z_C.R.Kids), .sl (z2z z_Body), .sl (z2z z_Else), .sl (z4z z_Arms)]
def z2z : List z0c → List (List PV)
 | [] => []
 | x :: xs => z0u x :: z2z xs
end
theorem z6x : ∀ l, z4z l = List.map z4y l
 | [] => by rw [z4z]; rfl
 | x :: xs => by rw [z4z, z6x xs]; rfl
theorem z50 : ∀ l, z2z l = List.map z0u l
 | [] => by rw [z2z]; rfl
 | x :: xs => by rw [z2z, z50 xs]; rfl
theorem z6b (x : z2y) : z4y x = [.str x.Tag, .str x.Var, .sl (List.map z0u x.Body)] := by
 cases x; rw [z4y]; simp only [z50]; first | done | rfl
theorem z2m (x : z0c) : z0u x = [.int .i64 x.Kind, .str x.Name, .str x.Tag, .int .i64 x.E.Kind, .int .i64 x.E.Num, .str x.E.Name, .sl (List.map z18 x.E.Kids), .int .i64 x.C.Op, .int .i64 x.C.L.Kind, .int .i64 x.C.L.Num, .str x.C.L.Name, .sl (List.map z18 x.C.L.Kids), .int .i64 x.C.R.Kind, .int .i64 x.C.R.Num, .str x.C.R.Name, .sl (List.map z18 x.C.R.Kids), .sl (List.map z0u x.Body), .sl (List.map z0u x.Else), .sl (List.map z4y x.Arms)] := by
 cases x; rw [z0u]; simp only [z6x, z50]; first | done | rfl
theorem z6y (x : z0c) : (z0u x).length = 19 := by rw [z2m]; rfl

structure z22 where
 Chans : (List zbc)
 Rules : (List zbe)
 Procs : (List z5u)
structure z1a where
 Chans : (List z1z)
 Rules : (List z27)
 Procs : (List z2b)
def z0j (x : ByteArray) : List PV := [.str x]
def z6q (x : zbc) : List PV := [.str x.Name, .int .i64 x.Kind, .int .i64 x.Size, .str x.From, .str x.To, .sl (List.map z0j x.Tags)]
def z1r (x : z1z) : List PV := [.str x.Name, .int .i64 x.Kind, .int .i64 x.Size, .str x.From, .str x.To, .sl (List.map z0j x.Tags)]
def z6r (x : zbd) : List PV := [.int .i64 x.From, .str x.Tag, .int .i64 x.To]
def z3w (x : zbe) : List PV := [.str x.Chan, .sl (List.map z6r x.Moves)]
def z3a (x : z39) : List PV := [.int .i64 x.From, .str x.Tag, .int .i64 x.To]
def z28 (x : z27) : List PV := [.str x.Chan, .sl (List.map z3a x.Moves)]
def z6s (x : z5u) : List PV := [.str x.Name, .sl (List.map z0j x.Vars), .sl (List.map z0u x.Body)]
def z2n (x : z22) : List PV := [.sl (List.map z6q x.Chans), .sl (List.map z3w x.Rules), .sl (List.map z6s x.Procs)]
mutual
def z0x : z06 → List PV
 | .mk z_Kind z_Num z_Name z_Kids => [.int .i64 z_Kind, .int .i64 z_Num, .str z_Name, .sl (z5a z_Kids)]
def z5a : List z06 → List (List PV)
 | [] => []
 | x :: xs => z0x x :: z5a xs
end
theorem z6c : ∀ l, z5a l = List.map z0x l
 | [] => rfl
 | x :: xs => by rw [z5a, z6c xs]; rfl
theorem z3b (x : z06) : z0x x = [.int .i64 x.Kind, .int .i64 x.Num, .str x.Name, .sl (List.map z0x x.Kids)] := by
 cases x; rw [z0x, z6c]
theorem zac (x : z06) : (z0x x).length = 4 := by rw [z3b]; rfl
def z8f (x : z2q) : List PV := [.int .i64 x.Op, .int .i64 x.L.Kind, .int .i64 x.L.Num, .str x.L.Name, .sl (List.map z0x x.L.Kids), .int .i64 x.R.Kind, .int .i64 x.R.Num, .str x.R.Name, .sl (List.map z0x x.R.Kids)]
def zau (x : z1u) : List PV := [.int .i64 x.Op, .int .i64 x.L.Kind, .int .i64 x.L.Num, .str x.L.Name, .sl (List.map z18 x.L.Kids), .int .i64 x.R.Kind, .int .i64 x.R.Num, .str x.R.Name, .sl (List.map z18 x.R.Kids)]
mutual
def z1o : z19 → List PV
 | .mk z_Tag z_Var z_Body => [.str z_Tag, .str z_Var, .sl (z30 z_Body)]
def z52 : List z19 → List (List PV)
 | [] => []
 | x :: xs => z1o x :: z52 xs
def z0o : z05 → List PV
 | .mk z_Kind z_Name z_Tag z_E z_C z_Body z_Else z_Arms => [.int .i64 z_Kind, .str z_Name, .str z_Tag, .int .i64 z_E.Kind, .int .i64 z_E.Num, .str z_E.Name, .sl (List.map z0x z_E.Kids), .int .i64 z_C.Op, .int .i64 z_C.L.Kind, .int .i64 z_C.L.Num, .str z_C.L.Name, .sl (List.map z0x z_C.L.Kids), .int .i64 z_C.R.Kind, .int .i64 z_C.R.Num, .str z_C.R.Name, .sl (List.map z0x z_C.R.Kids), .sl (z30 z_Body), .sl (z30 z_Else), .sl (z52 z_Arms)]
def z30 : List z05 → List (List PV)
 | [] => []
 | x :: xs => z0o x :: z30 xs
end
theorem z6z : ∀ l, z52 l = List.map z1o l
 | [] => by rw [z52]; rfl
 | x :: xs => by rw [z52, z6z xs]; rfl
theorem z54 : ∀ l, z30 l = List.map z0o l
 | [] => by rw [z30]; rfl
 | x :: xs => by rw [z30, z54 xs]; rfl
theorem z6d (x : z19) : z1o x = [.str x.Tag, .str x.Var, .sl (List.map z0o x.Body)] := by
 cases x; rw [z1o]; simp only [z54]; first | done | rfl
theorem zbf (x : z19) : (z1o x).length = 3 := by rw [z6d]; rfl
theorem z5v (x : z05) : z0o x = [.int .i64 x.Kind, .str x.Name, .str x.Tag, .int .i64 x.E.Kind, .int .i64 x.E.Num, .str x.E.Name, .sl (List.map z0x x.E.Kids), .int .i64 x.C.Op, .int .i64 x.C.L.Kind, .int .i64 x.C.L.Num, .str x.C.L.Name, .sl (List.map z0x x.C.L.Kids), .int .i64 x.C.R.Kind, .int .i64 x.C.R.Num, .str x.C.R.Name, .sl (List.map z0x x.C.R.Kids), .sl (List.map z0o x.Body), .sl (List.map z0o x.Else), .sl (List.map z1o x.Arms)] := by
 cases x; rw [z0o]; simp only [z6z, z54]; first | done | rfl
theorem zad (x : z05) : (z0o x).length = 19 := by rw [z5v]; rfl

def z2j (x : z2b) : List PV := [.str x.Name, .sl (List.map z0j x.Vars), .sl (List.map z0o x.Body)]
def z2v (x : z1a) : List PV := [.sl (List.map z1r x.Chans), .sl (List.map z28 x.Rules), .sl (List.map z2j x.Procs)]
structure z00 where
 f_out : (List ByteArray)
 f_form : Bool
 f_deep : Bool
 f_blocks : Int
 f_parens : Int
structure z15 where
 Kind : Int
 Text : ByteArray
 Num : Int
 At : Int
def z1i (x : z15) : List PV := [.int .i64 x.Kind, .str x.Text, .int .i64 x.Num, .int .i64 x.At]

def z6t (x : z0c) : List PV := [.int .i64 x.Kind, .str x.Name, .str x.Tag, .int .i64 x.E.Kind, .int .i64 x.E.Num, .str x.E.Name, .sl (List.map z18 x.E.Kids), .int .i64 x.C.Op, .int .i64 x.C.L.Kind, .int .i64 x.C.L.Num, .str x.C.L.Name, .sl (List.map z18 x.C.L.Kids), .int .i64 x.C.R.Kind, .int .i64 x.C.R.Num, .str x.C.R.Name, .sl (List.map z18 x.C.R.Kids), .sl (List.map z0u x.Body), .sl (List.map z0u x.Else), .sl (List.map z4y x.Arms)]
def z3x (x : z07) : List PV := [.int .i64 x.Kind, .int .i64 x.Num, .str x.Name, .sl (List.map z18 x.Kids)]
def z0a (x : z06) : List PV := [.int .i64 x.Kind, .int .i64 x.Num, .str x.Name, .sl (List.map z0x x.Kids)]
def z9w (x : z2y) : List PV := [.str x.Tag, .str x.Var, .sl (List.map z0u x.Body)]
def z47 (x : z05) : List PV := [.int .i64 x.Kind, .str x.Name, .str x.Tag, .int .i64 x.E.Kind, .int .i64 x.E.Num, .str x.E.Name, .sl (List.map z0x x.E.Kids), .int .i64 x.C.Op, .int .i64 x.C.L.Kind, .int .i64 x.C.L.Num, .str x.C.L.Name, .sl (List.map z0x x.C.L.Kids), .int .i64 x.C.R.Kind, .int .i64 x.C.R.Num, .str x.C.R.Name, .sl (List.map z0x x.C.R.Kids), .sl (List.map z0o x.Body), .sl (List.map z0o x.Else), .sl (List.map z1o x.Arms)]
def zi9 (x : z19) : List PV := [.str x.Tag, .str x.Var, .sl (List.map z0o x.Body)]
noncomputable def z48 (F_l02_Expr : z07 → Option z06) (a0 : z07) (x1 : (Int × (List z06))) : Option (Sum (Int × (List z06)) (Sum z06 (List z06))) :=
 if (decide (x1.1 < (a0.Kids.length : Int))) then (idx a0.Kids x1.1 >>= fun v1 =>
 F_l02_Expr v1 >>= fun v2 =>
 app 56 x1.2 [v2] >>= fun v3 =>
 some (.inl ((IntKind.i64.wrap (x1.1 + 1)), v3)))
 else (some (.inr (.inr x1.2)))

def z2x (r : z06) : List XV := [.agg (bs (z0a r))]

def zav (r : z06) : z0d := []

noncomputable def zg9 (r : z06) : Tg := .r false Tryd.f22.results.toList 0 (z2x r) (zav r)

noncomputable def z3o : Nat → z07 → Option z06
  | 0, _ => none
  | n + 1, a0 => iter (z48 (z3o n) a0) (0, []) >>= Sum.elim (fun _ => none) (fun j1 =>
 some (z06.mk a0.Kind a0.Num a0.Name j1))

noncomputable def z7n (a0 : z07) : Option z06 := unf fun n => z3o n a0

noncomputable def z7o (a0 : z1u) : Option z2q :=
 z7n a0.L >>= fun v1 =>
 z7n a0.R >>= fun v2 =>
 some (z2q.mk a0.Op v1 v2)

def z8g (r : z2q) : List XV := [.agg (bs (z8f r))]

def zga (r : z2q) : z0d := []

noncomputable def z3y (F_l02_Stmts : (List z0c) → Option (List z05)) (v1 : z0c) (x2 : (Int × (List z19))) : Option (Sum (Int × (List z19)) (Sum (List z05) (List z19))) :=
 if (decide (x2.1 < (v1.Arms.length : Int))) then (idx v1.Arms x2.1 >>= fun v6 =>
 F_l02_Stmts v6.Body >>= fun v7 =>
 app 56 x2.2 [(z19.mk v6.Tag v6.Var v7)] >>= fun v8 =>
 some (.inl ((IntKind.i64.wrap (x2.1 + 1)), v8)))
 else (some (.inr (.inr x2.2)))

noncomputable def z3z (F_l02_Stmts : (List z0c) → Option (List z05)) (a0 : (List z0c)) (x1 : (Int × (List z05))) : Option (Sum (Int × (List z05)) (Sum (List z05) (List z05))) :=
 if (decide (x1.1 < (a0.length : Int))) then (idx a0 x1.1 >>= fun v1 =>
 z7n v1.E >>= fun v2 =>
 z7o v1.C >>= fun v3 =>
 F_l02_Stmts v1.Body >>= fun v4 =>
 F_l02_Stmts v1.Else >>= fun v5 =>
 iter (z3y F_l02_Stmts v1) (0, []) >>= Sum.elim (fun _ => none) (fun j2 =>
 app 288 x1.2 [(z05.mk v1.Kind v1.Name v1.Tag v2 v3 v4 v5 j2)] >>= fun v9 =>
 some (.inl ((IntKind.i64.wrap (x1.1 + 1)), v9))))
 else (some (.inr (.inr x1.2)))

def z2o (r : (List z05)) : List XV := [xL (List.map z0o r)]

def z9x (r : (List z05)) : z0d := []

noncomputable def z9y (r : (List z05)) : Tg := .r false Tryd.f13.results.toList 0 (z2o r) (z9x r)

noncomputable def z2k : Nat → (List z0c) → Option (List z05)
  | 0, _ => none
  | n + 1, a0 => iter (z3z (z2k n) a0) (0, []) >>= Sum.elim (fun _ => none) (fun j1 =>
 some j1)

noncomputable def z9z (a0 : (List z0c)) : Option (List z05) := unf fun n => z2k n a0

noncomputable def z3c (a0 : z22) (x1 : (Int × (List z1z))) : Option (Sum (Int × (List z1z)) (Sum z1a (List z1z))) :=
 if (decide (x1.1 < (a0.Chans.length : Int))) then (idx a0.Chans x1.1 >>= fun v1 =>
 app 16 [] v1.Tags >>= fun v2 =>
 app 88 x1.2 [(z1z.mk v1.Name v1.Kind v1.Size v1.From v1.To v2)] >>= fun v3 =>
 some (.inl ((IntKind.i64.wrap (x1.1 + 1)), v3)))
 else (some (.inr (.inr x1.2)))

noncomputable def z3d (a0 : z22) (x2 : (Int × (List z27))) (x3 : (Int × (List z39))) : Option (Sum (Int × (List z39)) (Sum z1a (List z39))) :=
 idx a0.Rules x2.1 >>= fun v5 =>
 if (decide (x3.1 < (v5.Moves.length : Int))) then (idx a0.Rules x2.1 >>= fun v6 =>
 idx v6.Moves x3.1 >>= fun v7 =>
 app 32 x3.2 [(z39.mk v7.From v7.Tag v7.To)] >>= fun v8 =>
 some (.inl ((IntKind.i64.wrap (x3.1 + 1)), v8)))
 else (some (.inr (.inr x3.2)))

noncomputable def z3e (a0 : z22) (x2 : (Int × (List z27))) : Option (Sum (Int × (List z27)) (Sum z1a (List z27))) :=
 if (decide (x2.1 < (a0.Rules.length : Int))) then (idx a0.Rules x2.1 >>= fun v4 =>
 iter (z3d a0 x2) (0, []) >>= Sum.elim (fun _ => none) (fun j3 =>
 app 40 x2.2 [(z27.mk v4.Chan j3)] >>= fun v9 =>
 some (.inl ((IntKind.i64.wrap (x2.1 + 1)), v9))))
 else (some (.inr (.inr x2.2)))

noncomputable def z3f (a0 : z22) (x4 : (Int × (List z2b))) : Option (Sum (Int × (List z2b)) (Sum z1a (List z2b))) :=
 if (decide (x4.1 < (a0.Procs.length : Int))) then (idx a0.Procs x4.1 >>= fun v10 =>
 app 16 [] v10.Vars >>= fun v11 =>
 z9z v10.Body >>= fun v12 =>
 app 64 x4.2 [(z2b.mk v10.Name v11 v12)] >>= fun v13 =>
 some (.inl ((IntKind.i64.wrap (x4.1 + 1)), v13)))
 else (some (.inr (.inr x4.2)))

noncomputable def z40 (a0 : z22) : Option z1a :=
 iter (z3c a0) (0, []) >>= Sum.elim (fun _ => none) (fun j1 =>
 iter (z3e a0) (0, []) >>= Sum.elim (fun _ => none) (fun j2 =>
 iter (z3f a0) (0, []) >>= Sum.elim (fun _ => none) (fun j4 =>
 some (z1a.mk j1 j2 j4))))

def z4j (r : z1a) : List XV := [.agg (bs (z2v r))]

def z8y (r : z1a) : z0d := []

noncomputable def z5b (r : z1a) : Tg := .r false Tryd.f6.results.toList 0 (z4j r) (z8y r)

noncomputable def z01 (a0 : z00) (a1 : (List ByteArray)) : Option z00 :=
 app 16 a0.f_out a1 >>= fun v1 =>
 some (z00.mk v1 a0.f_form a0.f_deep a0.f_blocks a0.f_parens)

def z02 (r : z00) : List XV := []

def z03 (r : z00) : z0d := [oB 70 [.row 1, .pv (.bool r.f_form), .pv (.bool r.f_deep), .pv (.int .i64 r.f_blocks), .pv (.int .i64 r.f_parens)], oR true 9 1 (List.map z0j r.f_out)]

noncomputable def z4t (a0 : Int) : Option Bool :=
 if (decide (a0 ≥ 97)) then (some (decide (a0 ≤ 122)))
 else (some false)

def z4k (r : Bool) : List XV := [xB r]

def zcj (r : Bool) : z0d := []

noncomputable def z5j (a0 : Int) : Option Bool :=
 if (decide (a0 ≥ 48)) then (some (decide (a0 ≤ 57)))
 else (some false)

def z5w (r : Bool) : List XV := [xB r]

def zdq (r : Bool) : z0d := []

noncomputable def z49 (a0 : ByteArray) (x1 : Int) : Option (Sum Int (Sum Int Int)) :=
 ((if (decide (x1 < (a0.size : Int))) then (bidx a0 x1 >>= fun v1 =>
 z4t v1 >>= fun v2 =>
 if v2 then (some true)
 else (bidx a0 x1 >>= fun v3 =>
 z5j v3 >>= fun v4 =>
 some v4))
 else (some false) : Option Bool) >>= fun j2 =>
 if j2 then (some (.inl (IntKind.i64.wrap (x1 + 1))))
 else (some (.inr (.inr x1))))

noncomputable def z8h (a0 : ByteArray) : Option Int :=
 iter (z49 a0) 0 >>= Sum.elim (fun _ => none) (fun j1 =>
 some j1)

def z6e (r : Int) : List XV := [xI r]

def zck (r : Int) : z0d := []

noncomputable def zia (r : Int) : Tg := .r false Tryd.f26.results.toList 0 (z6e r) (zck r)

noncomputable def z4l (a0 : ByteArray) : Option Bool :=
 if (a0.toList == (ByteArray.mk #[99, 104, 97, 110]).toList) then (some true)
 else (if (a0.toList == (ByteArray.mk #[98, 108, 111, 99, 107]).toList) then (some true)
 else (if (a0.toList == (ByteArray.mk #[100, 114, 111, 112]).toList) then (some true)
 else (if (a0.toList == (ByteArray.mk #[108, 111, 115, 115, 121]).toList) then (some true)
 else (if (a0.toList == (ByteArray.mk #[102, 114, 111, 109]).toList) then (some true)
 else (if (a0.toList == (ByteArray.mk #[116, 111]).toList) then (some true)
 else (if (a0.toList == (ByteArray.mk #[114, 117, 108, 101]).toList) then (some true)
 else (if (a0.toList == (ByteArray.mk #[112, 114, 111, 99]).toList) then (some true)
 else (if (a0.toList == (ByteArray.mk #[118, 97, 114]).toList) then (some true)
 else (if (a0.toList == (ByteArray.mk #[105, 102]).toList) then (some true)
 else (if (a0.toList == (ByteArray.mk #[101, 108, 115, 101]).toList) then (some true)
 else (if (a0.toList == (ByteArray.mk #[119, 104, 105, 108, 101]).toList) then (some true)
 else (if (a0.toList == (ByteArray.mk #[115, 101, 110, 100]).toList) then (some true)
 else (if (a0.toList == (ByteArray.mk #[114, 101, 99, 118]).toList) then (some true)
 else (if (a0.toList == (ByteArray.mk #[97, 115, 115, 101, 114, 116]).toList) then (some true)
 else (if (a0.toList == (ByteArray.mk #[105, 110, 112, 117, 116]).toList) then (some true)
 else (some false))))))))))))))))

def z5f (r : Bool) : List XV := [xB r]

def zae (r : Bool) : z0d := []

noncomputable def z5k (a0 : ByteArray) : Option (z15 × Int) :=
 if (decide ((a0.size : Int) > 12)) then (some ((z15.mk 0 (ByteArray.mk #[]) 0 0), 3))
 else (z4l a0 >>= fun v1 =>
 if v1 then (some ((z15.mk 4 a0 0 0), 0))
 else (some ((z15.mk 1 a0 0 0), 0)))

def z7b (r : (z15 × Int)) : List XV := [.agg (bs (z1i r.1)), xI r.2]

def zdr (r : (z15 × Int)) : z0d := []

def zf2 (r : (Int × Int)) : List XV := [xI r.1, xI r.2]

def zds (r : Int) : List XV := [xI r]

noncomputable def z7p (a0 : ByteArray) : Option Int :=
 ((if (decide ((a0.size : Int) > 1)) then (bidx a0 1 >>= fun v1 =>
 if (v1 == 61) then (bidx a0 0 >>= fun v2 =>
 zdt (ByteArray.mk #[61, 33, 60, 62]) v2 >>= fun v3 =>
 some (decide (v3 ≥ 0)))
 else (some false))
 else (some false) : Option Bool) >>= fun j1 =>
 if j1 then (some 2)
 else (bidx a0 0 >>= fun v4 =>
 zdt (ByteArray.mk #[123, 125, 40, 41, 59, 44, 46, 61, 60, 62, 43, 45, 42, 47, 37]) v4 >>= fun v5 =>
 if (decide (v5 ≥ 0)) then (some 1)
 else (some 0)))

def z8i (r : Int) : List XV := [xI r]

def zgb (r : Int) : z0d := []

noncomputable def z5x (a0 : ByteArray) : Option (z15 × Int) :=
 bidx a0 0 >>= fun v1 =>
 z4t v1 >>= fun v2 =>
 if v2 then (z8h a0 >>= fun v3 =>
 ssub a0 0 v3 >>= fun v4 =>
 z5k v4 >>= fun v5 =>
 some (v5.1, v5.2))
 else (bidx a0 0 >>= fun v6 =>
 z5j v6 >>= fun v7 =>
 if v7 then (z8h a0 >>= fun v8 =>
 ssub a0 0 v8 >>= fun v9 =>
 za0 v9 >>= fun v10 =>
 some ((z15.mk 2 v9 v10.1 0), v10.2))
 else (z7p a0 >>= fun v11 =>
 if (v11 == 0) then (some ((z15.mk 0 (ByteArray.mk #[]) 0 0), 2))
 else (ssub a0 0 v11 >>= fun v12 =>
 some ((z15.mk 3 v12 0 0), 0))))

def z8j (r : (z15 × Int)) : List XV := [.agg (bs (z1i r.1)), xI r.2]

def zgc (r : (z15 × Int)) : z0d := []

noncomputable def z4a (a0 : ByteArray) (x1 : (Int × (List z15))) : Option (Sum (Int × (List z15)) (Sum ((List z15) × Int × Int) (List z15))) :=
 if (decide (x1.1 < (a0.size : Int))) then (((bidx a0 x1.1 >>= fun v1 =>
 if (v1 == 32) then (some true)
 else (bidx a0 x1.1 >>= fun v2 =>
 some (v2 == 10)) : Option Bool) >>= fun j2 =>
 if j2 then (some (.inl ((IntKind.i64.wrap (x1.1 + 1)), x1.2)))
 else (ssub a0 x1.1 (a0.size : Int) >>= fun v3 =>
 z5x v3 >>= fun v4 =>
 if (v4.2 != 0) then (some (.inr (.inl ([], x1.1, v4.2))))
 else (app 40 x1.2 [(z15.mk v4.1.Kind v4.1.Text v4.1.Num x1.1)] >>= fun v5 =>
 some (.inl ((IntKind.i64.wrap (x1.1 + (v4.1.Text.size : Int))), v5))))))
 else (some (.inr (.inr x1.2)))

noncomputable def za1 (a0 : ByteArray) : Option ((List z15) × Int × Int) :=
 iter (z4a a0) (0, []) >>= Sum.elim (fun r => some r) (fun j1 =>
 if (decide ((j1.length : Int) > 2000)) then (some ([], (a0.size : Int), 4))
 else (some (j1, 0, 0)))

def z7q (r : ((List z15) × Int × Int)) : List XV := [xL (List.map z1i r.1), xI r.2.1, xI r.2.2]

def zcl (r : ((List z15) × Int × Int)) : z0d := []

noncomputable def zib (r : ((List z15) × Int × Int)) : Tg := .r false Tryd.f8.results.toList 0 (z7q r) (zcl r)

noncomputable def z0w (a0 : z00) (a1 : Bool) : Option z00 :=
 if a0.f_form then (some (z00.mk a0.f_out true a0.f_deep a0.f_blocks a0.f_parens))
 else (some (z00.mk a0.f_out (!a1) a0.f_deep a0.f_blocks a0.f_parens))

def z11 (r : z00) : List XV := []

def z12 (r : z00) : z0d := [oB 70 [.row 1, .pv (.bool r.f_form), .pv (.bool r.f_deep), .pv (.int .i64 r.f_blocks), .pv (.int .i64 r.f_parens)], oR true 9 1 (List.map z0j r.f_out)]

noncomputable def z0e (a0 : z00) (a1 : ByteArray) : Option z00 :=
 za1 a1 >>= fun v1 =>
 ((if (v1.2.2 == 0) then (if ((v1.1.length : Int) == 1) then (idx v1.1 0 >>= fun v2 =>
 if (v2.Kind == 1) then (idx v1.1 0 >>= fun v3 =>
 z0w a0 (v3.Text.toList == a1.toList) >>= fun v4 =>
 some (v4.f_form, v4.f_deep, v4.f_blocks, v4.f_parens, v4.f_out))
 else (z0w a0 false >>= fun v5 =>
 some (v5.f_form, v5.f_deep, v5.f_blocks, v5.f_parens, v5.f_out)))
 else (z0w a0 false >>= fun v6 =>
 some (v6.f_form, v6.f_deep, v6.f_blocks, v6.f_parens, v6.f_out)))
 else (z0w a0 false >>= fun v7 =>
 some (v7.f_form, v7.f_deep, v7.f_blocks, v7.f_parens, v7.f_out)) : Option (Bool × Bool × Int × Int × (List ByteArray))) >>= fun j1 =>
 z01 (z00.mk j1.2.2.2.2 j1.1 j1.2.1 j1.2.2.1 j1.2.2.2.1) [a1] >>= fun v8 =>
 some v8)

def z0k (r : z00) : List XV := []

def z0l (r : z00) : z0d := [oB 70 [.row 1, .pv (.bool r.f_form), .pv (.bool r.f_deep), .pv (.int .i64 r.f_blocks), .pv (.int .i64 r.f_parens)], oR true 9 1 (List.map z0j r.f_out)]

def zkp (r : ByteArray) : List XV := [xS r]

noncomputable def z1b (a0 : z00) (a1 : Int) : Option z00 :=
 ((if (decide (a1 ≥ 0)) then (z0w a0 (decide (a1 ≤ 2147483647)) >>= fun v1 =>
 some (v1.f_form, v1.f_deep, v1.f_blocks, v1.f_parens, v1.f_out))
 else (z0w a0 false >>= fun v2 =>
 some (v2.f_form, v2.f_deep, v2.f_blocks, v2.f_parens, v2.f_out)) : Option (Bool × Bool × Int × Int × (List ByteArray))) >>= fun j1 =>
 itoa a1 >>= fun v3 =>
 z01 (z00.mk j1.2.2.2.2 j1.1 j1.2.1 j1.2.2.1 j1.2.2.2.1) [v3] >>= fun v4 =>
 some v4)

def z23 (r : z00) : List XV := []

def z24 (r : z00) : z0d := [oB 70 [.row 1, .pv (.bool r.f_form), .pv (.bool r.f_deep), .pv (.int .i64 r.f_blocks), .pv (.int .i64 r.f_parens)], oR true 9 1 (List.map z0j r.f_out)]

noncomputable def z1m (a1 : z1z) (x2 : (Int × Bool × Bool × Int × Int × (List ByteArray))) : Option (Sum (Int × Bool × Bool × Int × Int × (List ByteArray)) (Sum z00 (Bool × Bool × Int × Int × (List ByteArray)))) :=
 if (decide (x2.1 < (a1.Tags.length : Int))) then (((idx a1.Tags x2.1 >>= fun v11 =>
 if (decide (x2.1 > 0)) then (z01 (z00.mk x2.2.2.2.2.2 x2.2.1 x2.2.2.1 x2.2.2.2.1 x2.2.2.2.2.1) [(ByteArray.mk #[44])] >>= fun v12 =>
 z0e v12 v11 >>= fun v13 =>
 some (v13.f_form, v13.f_deep, v13.f_blocks, v13.f_parens, v13.f_out))
 else (z0e (z00.mk x2.2.2.2.2.2 x2.2.1 x2.2.2.1 x2.2.2.2.1 x2.2.2.2.2.1) v11 >>= fun v14 =>
 some (v14.f_form, v14.f_deep, v14.f_blocks, v14.f_parens, v14.f_out)) : Option (Bool × Bool × Int × Int × (List ByteArray))) >>= fun j3 =>
 some (.inl ((IntKind.i64.wrap (x2.1 + 1)), j3.1, j3.2.1, j3.2.2.1, j3.2.2.2.1, j3.2.2.2.2))))
 else (some (.inr (.inr (x2.2.1, x2.2.2.1, x2.2.2.2.1, x2.2.2.2.2.1, x2.2.2.2.2.2))))

noncomputable def z1n (a1 : z1z) (x4 : (Int × Bool × Bool × Int × Int × (List ByteArray))) : Option (Sum (Int × Bool × Bool × Int × Int × (List ByteArray)) (Sum z00 (Bool × Bool × Int × Int × (List ByteArray)))) :=
 if (decide (x4.1 < (a1.Tags.length : Int))) then (((idx a1.Tags x4.1 >>= fun v25 =>
 if (decide (x4.1 > 0)) then (z01 (z00.mk x4.2.2.2.2.2 x4.2.1 x4.2.2.1 x4.2.2.2.1 x4.2.2.2.2.1) [(ByteArray.mk #[44])] >>= fun v26 =>
 z0e v26 v25 >>= fun v27 =>
 some (v27.f_form, v27.f_deep, v27.f_blocks, v27.f_parens, v27.f_out))
 else (z0e (z00.mk x4.2.2.2.2.2 x4.2.1 x4.2.2.1 x4.2.2.2.1 x4.2.2.2.2.1) v25 >>= fun v28 =>
 some (v28.f_form, v28.f_deep, v28.f_blocks, v28.f_parens, v28.f_out)) : Option (Bool × Bool × Int × Int × (List ByteArray))) >>= fun j5 =>
 some (.inl ((IntKind.i64.wrap (x4.1 + 1)), j5.1, j5.2.1, j5.2.2.1, j5.2.2.2.1, j5.2.2.2.2))))
 else (some (.inr (.inr (x4.2.1, x4.2.2.1, x4.2.2.2.1, x4.2.2.2.2.1, x4.2.2.2.2.2))))

noncomputable def z29 (a0 : z00) (a1 : z1z) : Option z00 :=
 z01 a0 [(ByteArray.mk #[99, 104, 97, 110])] >>= fun v1 =>
 z0e v1 a1.Name >>= fun v2 =>
 ((if (decide (a1.Kind < 0)) then (some true)
 else (some (decide (a1.Kind ≥ 3))) : Option Bool) >>= fun j1 =>
 if j1 then (z0w v2 false >>= fun v3 =>
 z1b v3 a1.Size >>= fun v4 =>
 z01 v4 [(ByteArray.mk #[102, 114, 111, 109])] >>= fun v5 =>
 z0e v5 a1.From >>= fun v6 =>
 z01 v6 [(ByteArray.mk #[116, 111])] >>= fun v7 =>
 z0e v7 a1.To >>= fun v8 =>
 z01 v8 [(ByteArray.mk #[123])] >>= fun v9 =>
 z0w v9 (decide ((a1.Tags.length : Int) > 0)) >>= fun v10 =>
 iter (z1m a1) (0, v10.f_form, v10.f_deep, v10.f_blocks, v10.f_parens, v10.f_out) >>= Sum.elim (fun _ => none) (fun j2 =>
 z01 (z00.mk j2.2.2.2.2 j2.1 j2.2.1 j2.2.2.1 j2.2.2.2.1) [(ByteArray.mk #[125]), (ByteArray.mk #[59])] >>= fun v15 =>
 some v15))
 else (idx [(ByteArray.mk #[98, 108, 111, 99, 107]), (ByteArray.mk #[100, 114, 111, 112]), (ByteArray.mk #[108, 111, 115, 115, 121])] a1.Kind >>= fun v16 =>
 z01 v2 [v16] >>= fun v17 =>
 z1b v17 a1.Size >>= fun v18 =>
 z01 v18 [(ByteArray.mk #[102, 114, 111, 109])] >>= fun v19 =>
 z0e v19 a1.From >>= fun v20 =>
 z01 v20 [(ByteArray.mk #[116, 111])] >>= fun v21 =>
 z0e v21 a1.To >>= fun v22 =>
 z01 v22 [(ByteArray.mk #[123])] >>= fun v23 =>
 z0w v23 (decide ((a1.Tags.length : Int) > 0)) >>= fun v24 =>
 iter (z1n a1) (0, v24.f_form, v24.f_deep, v24.f_blocks, v24.f_parens, v24.f_out) >>= Sum.elim (fun _ => none) (fun j4 =>
 z01 (z00.mk j4.2.2.2.2 j4.1 j4.2.1 j4.2.2.1 j4.2.2.2.1) [(ByteArray.mk #[125]), (ByteArray.mk #[59])] >>= fun v29 =>
 some v29)))

def z3i (r : z00) : List XV := []

def z3j (r : z00) : z0d := [oB 70 [.row 1, .pv (.bool r.f_form), .pv (.bool r.f_deep), .pv (.int .i64 r.f_blocks), .pv (.int .i64 r.f_parens)], oR true 9 1 (List.map z0j r.f_out)]

noncomputable def z4o (r : z00) : Tg := .r false Tryd.f10.results.toList 2 (z3i r) (z3j r)

noncomputable def z1x (a1 : z27) (x1 : (Int × Bool × Bool × Int × Int × (List ByteArray))) : Option (Sum (Int × Bool × Bool × Int × Int × (List ByteArray)) (Sum z00 (Bool × Bool × Int × Int × (List ByteArray)))) :=
 if (decide (x1.1 < (a1.Moves.length : Int))) then (idx a1.Moves x1.1 >>= fun v4 =>
 z1b (z00.mk x1.2.2.2.2.2 x1.2.1 x1.2.2.1 x1.2.2.2.1 x1.2.2.2.2.1) v4.From >>= fun v5 =>
 z0e v5 v4.Tag >>= fun v6 =>
 z1b v6 v4.To >>= fun v7 =>
 z01 v7 [(ByteArray.mk #[59])] >>= fun v8 =>
 some (.inl ((IntKind.i64.wrap (x1.1 + 1)), v8.f_form, v8.f_deep, v8.f_blocks, v8.f_parens, v8.f_out)))
 else (some (.inr (.inr (x1.2.1, x1.2.2.1, x1.2.2.2.1, x1.2.2.2.2.1, x1.2.2.2.2.2))))

noncomputable def z2r (a0 : z00) (a1 : z27) : Option z00 :=
 z01 a0 [(ByteArray.mk #[114, 117, 108, 101])] >>= fun v1 =>
 z0e v1 a1.Chan >>= fun v2 =>
 z01 v2 [(ByteArray.mk #[123])] >>= fun v3 =>
 iter (z1x a1) (0, v3.f_form, v3.f_deep, v3.f_blocks, v3.f_parens, v3.f_out) >>= Sum.elim (fun _ => none) (fun j1 =>
 z01 (z00.mk j1.2.2.2.2 j1.1 j1.2.1 j1.2.2.1 j1.2.2.2.1) [(ByteArray.mk #[125])] >>= fun v9 =>
 some v9)

def z4b (r : z00) : List XV := []

def z4c (r : z00) : z0d := [oB 70 [.row 1, .pv (.bool r.f_form), .pv (.bool r.f_deep), .pv (.int .i64 r.f_blocks), .pv (.int .i64 r.f_parens)], oR true 9 1 (List.map z0j r.f_out)]

noncomputable def z8k (r : z00) : Tg := .r false Tryd.f11.results.toList 2 (z4b r) (z4c r)

noncomputable def z5y (a0 : Int) : Option Bool :=
 if (decide (a0 ≥ 4)) then (some (decide (a0 ≤ 8)))
 else (some false)

def z4u (r : Bool) : List XV := [xB r]

def zgd (r : Bool) : z0d := []

noncomputable def z6f (a0 : Int) : Option Bool :=
 if (a0 == 4) then (some true)
 else (some (a0 == 5))

def z3p (r : Bool) : List XV := [xB r]

def zic (r : Bool) : z0d := []

noncomputable def z31 (a0 : z00) (a1 : z06) : Option z00 :=
 z0w a0 ((a1.Kids.length : Int) == 0) >>= fun v1 =>
 if (a1.Kind == 1) then (z1b v1 a1.Num >>= fun v2 =>
 some v2)
 else (z0w v1 (a1.Kind == 2) >>= fun v3 =>
 z0e v3 a1.Name >>= fun v4 =>
 some v4)

def z5l (r : z00) : List XV := []

def z5m (r : z00) : z0d := [oB 70 [.row 1, .pv (.bool r.f_form), .pv (.bool r.f_deep), .pv (.int .i64 r.f_blocks), .pv (.int .i64 r.f_parens)], oR true 9 1 (List.map z0j r.f_out)]

def z0y (r : z00) : List XV := []

def z0z (r : z00) : z0d := [oB 70 [.row 1, .pv (.bool r.f_form), .pv (.bool r.f_deep), .pv (.int .i64 r.f_blocks), .pv (.int .i64 r.f_parens)], oR true 9 1 (List.map z0j r.f_out)]

def z0f (r : z00) : List XV := []

def z0g (a1011 : z06) (r : z00) : z0d := [oB 70 [.row 1, .pv (.bool r.f_form), .pv (.bool r.f_deep), .pv (.int .i64 r.f_blocks), .pv (.int .i64 r.f_parens)], oR true 9 1 (List.map z0j r.f_out), oB 68 [.box 0 0], oB 102 (bs (z0a a1011))]

def z16 (r : z00) : List XV := []

def z17 (r : z00) : z0d := [oB 70 [.row 1, .pv (.bool r.f_form), .pv (.bool r.f_deep), .pv (.int .i64 r.f_blocks), .pv (.int .i64 r.f_parens)], oR true 9 1 (List.map z0j r.f_out)]

def z1g (r : z00) : List XV := []

def z1h (a1 : z06) (r : z00) : z0d := [oB 68 [.box 1 0], oB 70 [.row 2, .pv (.bool r.f_form), .pv (.bool r.f_deep), .pv (.int .i64 r.f_blocks), .pv (.int .i64 r.f_parens)], oR true 9 1 (List.map z0j r.f_out), oB 102 (bs (z0a a1))]

def z0h (r : z00) : List XV := []

def z0i (a1011 : z06) (r : z00) : z0d := [oB 70 [.row 1, .pv (.bool r.f_form), .pv (.bool r.f_deep), .pv (.int .i64 r.f_blocks), .pv (.int .i64 r.f_parens)], oR true 9 1 (List.map z0j r.f_out), oB 68 [.box 0 0], oB 102 (bs (z0a a1011))]

def z1j (r : z00) : List XV := []

def z1k (a1 : z06) (r : z00) : z0d := [oB 68 [.box 1 0], oB 70 [.row 2, .pv (.bool r.f_form), .pv (.bool r.f_deep), .pv (.int .i64 r.f_blocks), .pv (.int .i64 r.f_parens)], oR true 9 1 (List.map z0j r.f_out), oB 102 (bs (z0a a1))]

mutual
noncomputable def z0p : Nat → z00 → z06 → Option z00
  | 0, _, _ => none
  | n + 1, a0, a1 => ((if (a1.Kind == 3) then (some ((a1.Kids.length : Int) == 1))
 else (some false) : Option Bool) >>= fun j1 =>
 if j1 then (z01 a0 [(ByteArray.mk #[45])] >>= fun v1 =>
 (z08 n) v1 a1 >>= fun v2 =>
 some v2)
 else (((z5y a1.Kind >>= fun v3 =>
 if v3 then (some ((a1.Kids.length : Int) == 2))
 else (some false) : Option Bool) >>= fun j2 =>
 if j2 then (idx a1.Kids 0 >>= fun v4 =>
 idx a1.Kids 1 >>= fun v5 =>
 ((z6f a1.Kind >>= fun v6 =>
 if (!v6) then (z6f v4.Kind >>= fun v7 =>
 (z0r n) a0 v4 v7 >>= fun v8 =>
 some (v8.f_form, v8.f_deep, v8.f_blocks, v8.f_parens, v8.f_out))
 else ((z0r n) a0 v4 false >>= fun v9 =>
 some (v9.f_form, v9.f_deep, v9.f_blocks, v9.f_parens, v9.f_out)) : Option (Bool × Bool × Int × Int × (List ByteArray))) >>= fun j3 =>
 idx [(ByteArray.mk #[43]), (ByteArray.mk #[45]), (ByteArray.mk #[42]), (ByteArray.mk #[47]), (ByteArray.mk #[37])] (IntKind.i64.wrap (a1.Kind - 4)) >>= fun v10 =>
 z01 (z00.mk j3.2.2.2.2 j3.1 j3.2.1 j3.2.2.1 j3.2.2.2.1) [v10] >>= fun v11 =>
 z6f v5.Kind >>= fun v12 =>
 if v12 then ((z0r n) v11 v5 true >>= fun v13 =>
 some v13)
 else (z6f a1.Kind >>= fun v14 =>
 if (!v14) then (z5y v5.Kind >>= fun v15 =>
 (z0r n) v11 v5 v15 >>= fun v16 =>
 some v16)
 else ((z0r n) v11 v5 false >>= fun v17 =>
 some v17))))
 else (z31 a0 a1 >>= fun v18 =>
 some v18))))
noncomputable def z08 : Nat → z00 → z06 → Option z00
  | 0, _, _ => none
  | n + 1, a0, a1011 => ((if a0.f_deep then (some true)
 else (some (decide ((IntKind.i64.wrap (a0.f_parens + 1)) > 24))) : Option Bool) >>= fun j1 =>
 (z10 n) (z00.mk a0.f_out a0.f_form j1 a0.f_blocks (IntKind.i64.wrap (a0.f_parens + 1))) a1011 >>= fun v1 =>
 some (z00.mk v1.f_out v1.f_form v1.f_deep v1.f_blocks (IntKind.i64.wrap (v1.f_parens - 1))))
noncomputable def z0r : Nat → z00 → z06 → Bool → Option z00
  | 0, _, _, _ => none
  | n + 1, a0, a1, a2 => if (!a2) then ((z0p n) a0 a1 >>= fun v1 =>
 some v1)
 else (z01 a0 [(ByteArray.mk #[40])] >>= fun v2 =>
 (z09 n) v2 a1 >>= fun v3 =>
 z01 v3 [(ByteArray.mk #[41])] >>= fun v4 =>
 some v4)
noncomputable def z10 : Nat → z00 → z06 → Option z00
  | 0, _, _ => none
  | n + 1, a0, a1 => idx a1.Kids 0 >>= fun v1 =>
 z5y v1.Kind >>= fun v2 =>
 (z0r n) a0 v1 v2 >>= fun v3 =>
 some v3
noncomputable def z09 : Nat → z00 → z06 → Option z00
  | 0, _, _ => none
  | n + 1, a0, a1011 => ((if a0.f_deep then (some true)
 else (some (decide ((IntKind.i64.wrap (a0.f_parens + 1)) > 24))) : Option Bool) >>= fun j1 =>
 (z13 n) (z00.mk a0.f_out a0.f_form j1 a0.f_blocks (IntKind.i64.wrap (a0.f_parens + 1))) a1011 >>= fun v1 =>
 some (z00.mk v1.f_out v1.f_form v1.f_deep v1.f_blocks (IntKind.i64.wrap (v1.f_parens - 1))))
noncomputable def z13 : Nat → z00 → z06 → Option z00
  | 0, _, _ => none
  | n + 1, a0, a1 => (z0p n) a0 a1 >>= fun v1 =>
 some v1
end

noncomputable def z2d (a0 : z00) (a1 : z06) : Option z00 := unf fun n => z0p n a0 a1

noncomputable def z2e (a0 : z00) (a1 : z2q) : Option z00 :=
 z01 a0 [(ByteArray.mk #[40])] >>= fun v1 =>
 z2d v1 a1.L >>= fun v2 =>
 ((if (decide (a1.Op < 1)) then (some true)
 else (some (decide (a1.Op > 6))) : Option Bool) >>= fun j1 =>
 if j1 then (z0w v2 false >>= fun v3 =>
 z2d v3 a1.R >>= fun v4 =>
 z01 v4 [(ByteArray.mk #[41])] >>= fun v5 =>
 some v5)
 else (idx [(ByteArray.mk #[61, 61]), (ByteArray.mk #[33, 61]), (ByteArray.mk #[60]), (ByteArray.mk #[60, 61]), (ByteArray.mk #[62]), (ByteArray.mk #[62, 61])] (IntKind.i64.wrap (a1.Op - 1)) >>= fun v6 =>
 z01 v2 [v6] >>= fun v7 =>
 z2d v7 a1.R >>= fun v8 =>
 z01 v8 [(ByteArray.mk #[41])] >>= fun v9 =>
 some v9))

def z3g (r : z00) : List XV := []

def z3h (r : z00) : z0d := [oB 70 [.row 1, .pv (.bool r.f_form), .pv (.bool r.f_deep), .pv (.int .i64 r.f_blocks), .pv (.int .i64 r.f_parens)], oR true 9 1 (List.map z0j r.f_out)]

noncomputable def z1q (F_ast_writer_stmts : z00 → (List z05) → Option z00) (F_ast_writer_stmt : z00 → z05 → Option z00) (F_ast_writer_block : z00 → (List z05) → Option z00) (F_ast_writer_arms : z00 → (List z19) → Option z00) (a1 : (List z05)) (x1 : (Int × Bool × Bool × Int × Int × (List ByteArray))) : Option (Sum (Int × Bool × Bool × Int × Int × (List ByteArray)) (Sum z00 (Bool × Bool × Int × Int × (List ByteArray)))) :=
 if (decide (x1.1 < (a1.length : Int))) then (idx a1 x1.1 >>= fun v1 =>
 F_ast_writer_stmt (z00.mk x1.2.2.2.2.2 x1.2.1 x1.2.2.1 x1.2.2.2.1 x1.2.2.2.2.1) v1 >>= fun v2 =>
 some (.inl ((IntKind.i64.wrap (x1.1 + 1)), v2.f_form, v2.f_deep, v2.f_blocks, v2.f_parens, v2.f_out)))
 else (some (.inr (.inr (x1.2.1, x1.2.2.1, x1.2.2.2.1, x1.2.2.2.2.1, x1.2.2.2.2.2))))

def z1c (r : z00) : List XV := []

def z1d (r : z00) : z0d := [oB 70 [.row 1, .pv (.bool r.f_form), .pv (.bool r.f_deep), .pv (.int .i64 r.f_blocks), .pv (.int .i64 r.f_parens)], oR true 9 1 (List.map z0j r.f_out)]

noncomputable def z7r (r : z00) : Tg := .r false Tryd.f21.results.toList 2 (z1c r) (z1d r)

def z25 (r : z00) : List XV := []

def z26 (r : z00) : z0d := [oB 70 [.row 1, .pv (.bool r.f_form), .pv (.bool r.f_deep), .pv (.int .i64 r.f_blocks), .pv (.int .i64 r.f_parens)], oR true 9 1 (List.map z0j r.f_out)]

def z1e (r : z00) : List XV := []

def z1f (r : z00) : z0d := [oB 70 [.row 1, .pv (.bool r.f_form), .pv (.bool r.f_deep), .pv (.int .i64 r.f_blocks), .pv (.int .i64 r.f_parens)], oR true 9 1 (List.map z0j r.f_out)]

noncomputable def z1y (F_ast_writer_stmts : z00 → (List z05) → Option z00) (F_ast_writer_stmt : z00 → z05 → Option z00) (F_ast_writer_block : z00 → (List z05) → Option z00) (F_ast_writer_arms : z00 → (List z19) → Option z00) (a1 : (List z19)) (x1 : (Int × Bool × Bool × Int × Int × (List ByteArray))) : Option (Sum (Int × Bool × Bool × Int × Int × (List ByteArray)) (Sum z00 (Bool × Bool × Int × Int × (List ByteArray)))) :=
 if (decide (x1.1 < (a1.length : Int))) then (idx a1 x1.1 >>= fun v3 =>
 z0e (z00.mk x1.2.2.2.2.2 x1.2.1 x1.2.2.1 x1.2.2.2.1 x1.2.2.2.2.1) v3.Tag >>= fun v4 =>
 z01 v4 [(ByteArray.mk #[40])] >>= fun v5 =>
 z0e v5 v3.Var >>= fun v6 =>
 z01 v6 [(ByteArray.mk #[41])] >>= fun v7 =>
 F_ast_writer_block v7 v3.Body >>= fun v8 =>
 some (.inl ((IntKind.i64.wrap (x1.1 + 1)), v8.f_form, v8.f_deep, v8.f_blocks, v8.f_parens, v8.f_out)))
 else (some (.inr (.inr (x1.2.1, x1.2.2.1, x1.2.2.2.1, x1.2.2.2.2.1, x1.2.2.2.2.2))))

def z1s (r : z00) : List XV := []

def z1t (r : z00) : z0d := [oB 70 [.row 1, .pv (.bool r.f_form), .pv (.bool r.f_deep), .pv (.int .i64 r.f_blocks), .pv (.int .i64 r.f_parens)], oR true 9 1 (List.map z0j r.f_out)]

noncomputable def z8l (r : z00) : Tg := .r false Tryd.f42.results.toList 2 (z1s r) (z1t r)

mutual
noncomputable def z0q : Nat → z00 → (List z05) → Option z00
  | 0, _, _ => none
  | n + 1, a0, a1 => iter (z1q (z0q n) (z0t n) (z0m n) (z0v n) a1) (0, a0.f_form, a0.f_deep, a0.f_blocks, a0.f_parens, a0.f_out) >>= Sum.elim (fun _ => none) (fun j1 =>
 some (z00.mk j1.2.2.2.2 j1.1 j1.2.1 j1.2.2.1 j1.2.2.2.1))
noncomputable def z0t : Nat → z00 → z05 → Option z00
  | 0, _, _ => none
  | n + 1, a0, a1 => if (a1.Kind == 1) then (z0e a0 a1.Name >>= fun v1 =>
 z01 v1 [(ByteArray.mk #[61])] >>= fun v2 =>
 z2d v2 a1.E >>= fun v3 =>
 z01 v3 [(ByteArray.mk #[59])] >>= fun v4 =>
 some v4)
 else (if (a1.Kind == 2) then (z01 a0 [(ByteArray.mk #[105, 102])] >>= fun v5 =>
 z2e v5 a1.C >>= fun v6 =>
 (z0m n) v6 a1.Body >>= fun v7 =>
 if (decide ((a1.Else.length : Int) > 0)) then (z01 v7 [(ByteArray.mk #[101, 108, 115, 101])] >>= fun v8 =>
 (z0m n) v8 a1.Else >>= fun v9 =>
 some v9)
 else (some v7))
 else (if (a1.Kind == 3) then (z01 a0 [(ByteArray.mk #[119, 104, 105, 108, 101])] >>= fun v10 =>
 z2e v10 a1.C >>= fun v11 =>
 (z0m n) v11 a1.Body >>= fun v12 =>
 some v12)
 else (if (a1.Kind == 4) then (z01 a0 [(ByteArray.mk #[115, 101, 110, 100])] >>= fun v13 =>
 z0e v13 a1.Name >>= fun v14 =>
 z01 v14 [(ByteArray.mk #[46])] >>= fun v15 =>
 z0e v15 a1.Tag >>= fun v16 =>
 z01 v16 [(ByteArray.mk #[40])] >>= fun v17 =>
 z2d v17 a1.E >>= fun v18 =>
 z01 v18 [(ByteArray.mk #[41]), (ByteArray.mk #[59])] >>= fun v19 =>
 some v19)
 else (if (a1.Kind == 5) then (z01 a0 [(ByteArray.mk #[114, 101, 99, 118])] >>= fun v20 =>
 z0e v20 a1.Name >>= fun v21 =>
 (z0v n) v21 a1.Arms >>= fun v22 =>
 some v22)
 else (if (a1.Kind == 6) then (z01 a0 [(ByteArray.mk #[97, 115, 115, 101, 114, 116])] >>= fun v23 =>
 z2e v23 a1.C >>= fun v24 =>
 z01 v24 [(ByteArray.mk #[59])] >>= fun v25 =>
 some v25)
 else (if (a1.Kind == 7) then (z01 a0 [(ByteArray.mk #[105, 110, 112, 117, 116])] >>= fun v26 =>
 z0e v26 a1.Name >>= fun v27 =>
 z01 v27 [(ByteArray.mk #[59])] >>= fun v28 =>
 some v28)
 else (z0w a0 false >>= fun v29 =>
 some v29)))))))
noncomputable def z0m : Nat → z00 → (List z05) → Option z00
  | 0, _, _ => none
  | n + 1, a0, a1 => z01 a0 [(ByteArray.mk #[123])] >>= fun v1 =>
 ((if v1.f_deep then (some true)
 else (some (decide ((IntKind.i64.wrap (v1.f_blocks + 1)) > 24))) : Option Bool) >>= fun j1 =>
 (z0q n) (z00.mk v1.f_out v1.f_form j1 (IntKind.i64.wrap (v1.f_blocks + 1)) v1.f_parens) a1 >>= fun v2 =>
 z01 (z00.mk v2.f_out v2.f_form v2.f_deep (IntKind.i64.wrap (v2.f_blocks - 1)) v2.f_parens) [(ByteArray.mk #[125])] >>= fun v3 =>
 some v3)
noncomputable def z0v : Nat → z00 → (List z19) → Option z00
  | 0, _, _ => none
  | n + 1, a0, a1 => z0w a0 (decide ((a1.length : Int) > 0)) >>= fun v1 =>
 z01 v1 [(ByteArray.mk #[123])] >>= fun v2 =>
 iter (z1y (z0q n) (z0t n) (z0m n) (z0v n) a1) (0, v2.f_form, v2.f_deep, v2.f_blocks, v2.f_parens, v2.f_out) >>= Sum.elim (fun _ => none) (fun j1 =>
 z01 (z00.mk j1.2.2.2.2 j1.1 j1.2.1 j1.2.2.1 j1.2.2.2.1) [(ByteArray.mk #[125])] >>= fun v9 =>
 some v9)
end

noncomputable def z3s (a0 : z00) (a1 : (List z05)) : Option z00 := unf fun n => z0q n a0 a1

noncomputable def z2a (a1 : z2b) (x1 : (Int × Bool × Bool × Int × Int × (List ByteArray))) : Option (Sum (Int × Bool × Bool × Int × Int × (List ByteArray)) (Sum z00 (Bool × Bool × Int × Int × (List ByteArray)))) :=
 if (decide (x1.1 < (a1.Vars.length : Int))) then (idx a1.Vars x1.1 >>= fun v4 =>
 z01 (z00.mk x1.2.2.2.2.2 x1.2.1 x1.2.2.1 x1.2.2.2.1 x1.2.2.2.2.1) [(ByteArray.mk #[118, 97, 114])] >>= fun v5 =>
 z0e v5 v4 >>= fun v6 =>
 z01 v6 [(ByteArray.mk #[59])] >>= fun v7 =>
 some (.inl ((IntKind.i64.wrap (x1.1 + 1)), v7.f_form, v7.f_deep, v7.f_blocks, v7.f_parens, v7.f_out)))
 else (some (.inr (.inr (x1.2.1, x1.2.2.1, x1.2.2.2.1, x1.2.2.2.2.1, x1.2.2.2.2.2))))

noncomputable def z2s (a0 : z00) (a1 : z2b) : Option z00 :=
 z01 a0 [(ByteArray.mk #[112, 114, 111, 99])] >>= fun v1 =>
 z0e v1 a1.Name >>= fun v2 =>
 z01 v2 [(ByteArray.mk #[123])] >>= fun v3 =>
 iter (z2a a1) (0, v3.f_form, v3.f_deep, v3.f_blocks, v3.f_parens, v3.f_out) >>= Sum.elim (fun _ => none) (fun j1 =>
 z3s (z00.mk j1.2.2.2.2 j1.1 j1.2.1 j1.2.2.1 j1.2.2.2.1) a1.Body >>= fun v8 =>
 z01 v8 [(ByteArray.mk #[125])] >>= fun v9 =>
 some v9)

def z4d (r : z00) : List XV := []

def z4e (r : z00) : z0d := [oB 70 [.row 1, .pv (.bool r.f_form), .pv (.bool r.f_deep), .pv (.int .i64 r.f_blocks), .pv (.int .i64 r.f_parens)], oR true 9 1 (List.map z0j r.f_out)]

noncomputable def z8m (r : z00) : Tg := .r false Tryd.f12.results.toList 2 (z4d r) (z4e r)

noncomputable def z32 (a0 : z1a) (x1 : (Int × Bool × Bool × Int × Int × (List ByteArray))) : Option (Sum (Int × Bool × Bool × Int × Int × (List ByteArray)) (Sum ((List ByteArray) × Int) (Bool × Bool × Int × Int × (List ByteArray)))) :=
 if (decide (x1.1 < (a0.Chans.length : Int))) then (idx a0.Chans x1.1 >>= fun v1 =>
 z29 (z00.mk x1.2.2.2.2.2 x1.2.1 x1.2.2.1 x1.2.2.2.1 x1.2.2.2.2.1) v1 >>= fun v2 =>
 some (.inl ((IntKind.i64.wrap (x1.1 + 1)), v2.f_form, v2.f_deep, v2.f_blocks, v2.f_parens, v2.f_out)))
 else (some (.inr (.inr (x1.2.1, x1.2.2.1, x1.2.2.2.1, x1.2.2.2.2.1, x1.2.2.2.2.2))))

noncomputable def z33 (a0 : z1a) (x2 : (Int × Bool × Bool × Int × Int × (List ByteArray))) : Option (Sum (Int × Bool × Bool × Int × Int × (List ByteArray)) (Sum ((List ByteArray) × Int) (Bool × Bool × Int × Int × (List ByteArray)))) :=
 if (decide (x2.1 < (a0.Rules.length : Int))) then (idx a0.Rules x2.1 >>= fun v3 =>
 z2r (z00.mk x2.2.2.2.2.2 x2.2.1 x2.2.2.1 x2.2.2.2.1 x2.2.2.2.2.1) v3 >>= fun v4 =>
 some (.inl ((IntKind.i64.wrap (x2.1 + 1)), v4.f_form, v4.f_deep, v4.f_blocks, v4.f_parens, v4.f_out)))
 else (some (.inr (.inr (x2.2.1, x2.2.2.1, x2.2.2.2.1, x2.2.2.2.2.1, x2.2.2.2.2.2))))

noncomputable def z34 (a0 : z1a) (x3 : (Int × Bool × Bool × Int × Int × (List ByteArray))) : Option (Sum (Int × Bool × Bool × Int × Int × (List ByteArray)) (Sum ((List ByteArray) × Int) (Bool × Bool × Int × Int × (List ByteArray)))) :=
 if (decide (x3.1 < (a0.Procs.length : Int))) then (idx a0.Procs x3.1 >>= fun v5 =>
 z2s (z00.mk x3.2.2.2.2.2 x3.2.1 x3.2.2.1 x3.2.2.2.1 x3.2.2.2.2.1) v5 >>= fun v6 =>
 some (.inl ((IntKind.i64.wrap (x3.1 + 1)), v6.f_form, v6.f_deep, v6.f_blocks, v6.f_parens, v6.f_out)))
 else (some (.inr (.inr (x3.2.1, x3.2.2.1, x3.2.2.2.1, x3.2.2.2.2.1, x3.2.2.2.2.2))))

noncomputable def z5n (a0 : z1a) : Option ((List ByteArray) × Int) :=
 iter (z32 a0) (0, false, false, 0, 0, []) >>= Sum.elim (fun _ => none) (fun j1 =>
 iter (z33 a0) (0, j1.1, j1.2.1, j1.2.2.1, j1.2.2.2.1, j1.2.2.2.2) >>= Sum.elim (fun _ => none) (fun j2 =>
 iter (z34 a0) (0, j2.1, j2.2.1, j2.2.2.1, j2.2.2.2.1, j2.2.2.2.2) >>= Sum.elim (fun _ => none) (fun j3 =>
 if j3.1 then (some ([], 5))
 else (if j3.2.1 then (some ([], 6))
 else (if (decide ((j3.2.2.2.2.length : Int) > 2000)) then (some ([], 4))
 else (some (j3.2.2.2.2, 0)))))))

def z5z (r : ((List ByteArray) × Int)) : List XV := [xL (List.map z0j r.1), xI r.2]

def za2 (r : ((List ByteArray) × Int)) : z0d := []

noncomputable def z7c (r : ((List ByteArray) × Int)) : Tg := .r false Tryd.f5.results.toList 0 (z5z r) (za2 r)

noncomputable def z9a (a0 : z1a) : Option (ByteArray × Int) :=
 z5n a0 >>= fun q => if (z6g q.1).length ≤ 140737488355328 then some (zjz q.1, q.2) else none

def zaw (r : (ByteArray × Int)) : List XV := [xS r.1, xI r.2]

noncomputable def z5o : Option Bool :=
 z40 (z22.mk [] [] [(z5u.mk (ByteArray.mk #[112]) [] [(z0c.mk 1 (ByteArray.mk #[120]) (ByteArray.mk #[]) (z07.mk 6 0 (ByteArray.mk #[]) [(z07.mk 4 0 (ByteArray.mk #[]) [(z07.mk 2 0 (ByteArray.mk #[97]) []), (z07.mk 1 1 (ByteArray.mk #[]) [])]), (z07.mk 1 2 (ByteArray.mk #[]) [])]) (z1u.mk 0 (z07.mk 0 0 (ByteArray.mk #[]) []) (z07.mk 0 0 (ByteArray.mk #[]) [])) [] [] [])])]) >>= fun v1 =>
 z9a v1 >>= fun v2 =>
 if (v2.2 == 0) then (some (v2.1.toList == (ByteArray.mk #[112, 114, 111, 99, 32, 112, 32, 123, 32, 120, 32, 61, 32, 40, 32, 97, 32, 43, 32, 49, 32, 41, 32, 42, 32, 50, 32, 59, 32, 125, 32]).toList))
 else (some false)

def z35 (r : Bool) : List XV := [xB r]

def zdu (r : Bool) : z0d := []

noncomputable def z2c (v1 : Int) (x1 : (Int × (List z0c))) : Option (Sum (Int × (List z0c)) (Sum Bool (List z0c))) :=
 if (decide (x1.1 < (IntKind.i64.wrap (660 + (IntKind.i64.wrap v1))))) then (((app 288 x1.2 [(z0c.mk 7 (ByteArray.mk #[120]) (ByteArray.mk #[]) (z07.mk 0 0 (ByteArray.mk #[]) []) (z1u.mk 0 (z07.mk 0 0 (ByteArray.mk #[]) []) (z07.mk 0 0 (ByteArray.mk #[]) [])) [] [] [])] >>= fun v4 =>
 some v4 : Option (List z0c)) >>= fun j2 =>
 some (.inl ((IntKind.i64.wrap (x1.1 + 1)), j2))))
 else (some (.inr (.inr x1.2)))

noncomputable def z60 (a0 : Int) : Option Bool :=
 rem (IntKind.u64.wrap a0) 10 >>= fun v1 =>
 iter (z2c v1) (0, []) >>= Sum.elim (fun _ => none) (fun j1 =>
 z40 (z22.mk [] [] [(z5u.mk (ByteArray.mk #[112]) [] j1)]) >>= fun v5 =>
 z5n v5 >>= fun v6 =>
 if (decide ((IntKind.i64.wrap (4 + (IntKind.i64.wrap (3 * (IntKind.i64.wrap (660 + (IntKind.i64.wrap v1))))))) > 2000)) then (((z5o >>= fun v7 =>
 if v7 then (if (v6.2 == 4) then (some ((v6.1.length : Int) == 0))
 else (some false))
 else (some false) : Option Bool) >>= fun j3 =>
 some j3))
 else (z5o >>= fun v8 =>
 if v8 then (if (v6.2 == 0) then (some ((v6.1.length : Int) == (IntKind.i64.wrap (4 + (IntKind.i64.wrap (3 * (IntKind.i64.wrap (660 + (IntKind.i64.wrap v1)))))))))
 else (some false))
 else (some false)))

def z61 (r : Bool) : List XV := [xB r]

def z7s (r : Bool) : z0d := []

noncomputable def zbg (r : Bool) : Tg := .r false Tryd.f3.results.toList 0 (z61 r) (z7s r)
end Go.Proofs.YtnfjgjomokloaaaDoor.Abs
