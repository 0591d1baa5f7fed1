/- Gw: the functions, told by typed values. -/
import Derived.Test.YtokjbpmjdcbogaaGreatDoorHandT
import Derived.Test.YtokjbpmjdcbogaaGreatDoorProg
namespace Go.Proofs.YtokjbpmjdcbogaaGreatDoor.Abs
open Go Go.RowKit
set_option linter.unusedVariables false

structure z23 where
 Name : ByteArray
 Kind : Int
 Size : Int
 From : ByteArray
 To : ByteArray
 Tags : (List ByteArray)
structure z3s where
 From : Int
 Tag : ByteArray
 To : Int
structure z2g where
 Chan : ByteArray
 Moves : (List z3s)
structure z04 where
 Kind : Int
 Num : Int
 Name : ByteArray
 Kids : (List z04)
structure z31 where
 Op : Int
 L : z04
 R : z04
mutual
inductive z0m where
 | mk (Tag : ByteArray) (Var : ByteArray) (Body : (List z03))
inductive z03 where
 | mk (Kind : Int) (Name : ByteArray) (Tag : ByteArray) (E : z04) (C : z31) (Body : (List z03)) (Else : (List z03)) (Arms : (List z0m))
end
def z0m.Tag : z0m → ByteArray
 | .mk x _ _ => x
def z0m.Var : z0m → ByteArray
 | .mk _ x _ => x
def z0m.Body : z0m → (List z03)
 | .mk _ _ x => x
def z03.Kind : z03 → Int
 | .mk x _ _ _ _ _ _ _ => x
def z03.Name : z03 → ByteArray
 | .mk _ x _ _ _ _ _ _ => x
def z03.Tag : z03 → ByteArray
 | .mk _ _ x _ _ _ _ _ => x
def z03.E : z03 → z04
 | .mk _ _ _ x _ _ _ _ => x
def z03.C : z03 → z31
 | .mk _ _ _ _ x _ _ _ => x
def z03.Body : z03 → (List z03)
 | .mk _ _ _ _ _ x _ _ => x
def z03.Else : z03 → (List z03)
 | .mk _ _ _ _ _ _ x _ => x
def z03.Arms : z03 → (List z0m)
 | .mk _ _ _ _ _ _ _ x => x
structure z2h where
 Name : ByteArray
 Vars : (List ByteArray)
 Body : (List z03)
structure z9x where
 Name : ByteArray
 Kind : Int
 Size : Int
 From : ByteArray
 To : ByteArray
 Tags : (List ByteArray)
structure z96 where
 From : Int
 Tag : ByteArray
 To : Int
structure z9y where
 Chan : ByteArray
 Moves : (List z96)
structure z1m where
 Kind : Int
 Num : Int
 Name : ByteArray
 Kids : (List z1m)
structure z7t where
 Op : Int
 L : z1m
 R : z1m
mutual
inductive z4p where
 | mk (Tag : ByteArray) (Var : ByteArray) (Body : (List z0t))
inductive z0t where
 | mk (Kind : Int) (Name : ByteArray) (Tag : ByteArray) (E : z1m) (C : z7t) (Body : (List z0t)) (Else : (List z0t)) (Arms : (List z4p))
end
def z4p.Tag : z4p → ByteArray
 | .mk x _ _ => x
def z4p.Var : z4p → ByteArray
 | .mk _ x _ => x
def z4p.Body : z4p → (List z0t)
 | .mk _ _ x => x
def z0t.Kind : z0t → Int
 | .mk x _ _ _ _ _ _ _ => x
def z0t.Name : z0t → ByteArray
 | .mk _ x _ _ _ _ _ _ => x
def z0t.Tag : z0t → ByteArray
 | .mk _ _ x _ _ _ _ _ => x
def z0t.E : z0t → z1m
 | .mk _ _ _ x _ _ _ _ => x
def z0t.C : z0t → z7t
 | .mk _ _ _ _ x _ _ _ => x
def z0t.Body : z0t → (List z0t)
 | .mk _ _ _ _ _ x _ _ => x
def z0t.Else : z0t → (List z0t)
 | .mk _ _ _ _ _ _ x _ => x
def z0t.Arms : z0t → (List z4p)
 | .mk _ _ _ _ _ _ _ x => x
structure z9z where
 Name : ByteArray
 Vars : (List ByteArray)
 Body : (List z0t)
structure z0e where
 Kind : Int
 Text : ByteArray
 Num : Int
 At : Int
structure z43 where
 Chans : (List z9x)
 Rules : (List z9y)
 Procs : (List z9z)
structure z16 where
 Chans : (List z23)
 Rules : (List z2g)
 Procs : (List z2h)
def z0v (x : ByteArray) : List PV := [.str x]
def zbb (x : z9x) : List PV := [.str x.Name, .int .i64 x.Kind, .int .i64 x.Size, .str x.From, .str x.To, .sl (List.map z0v x.Tags)]
def z1u (x : z23) : List PV := [.str x.Name, .int .i64 x.Kind, .int .i64 x.Size, .str x.From, .str x.To, .sl (List.map z0v x.Tags)]
def zbc (x : z96) : List PV := [.int .i64 x.From, .str x.Tag, .int .i64 x.To]
def z7m (x : z9y) : List PV := [.str x.Chan, .sl (List.map zbc x.Moves)]
def z3o (x : z3s) : List PV := [.int .i64 x.From, .str x.Tag, .int .i64 x.To]
def z28 (x : z2g) : List PV := [.str x.Chan, .sl (List.map z3o x.Moves)]
mutual
def z4n : z1m → List PV
 | .mk z_Kind z_Num z_Name z_Kids => [.int .i64 z_Kind, .int .i64 z_Num, .str z_Name, .sl (zc2 z_Kids)]
def zc2 : List z1m → List (List PV)
 | [] => []
 | x :: xs => z4n x :: zc2 xs
end
theorem zdx : ∀ l, zc2 l = List.map z4n l
 | [] => rfl
 | x :: xs => by rw [zc2, zdx xs]; rfl
theorem za0 (x : z1m) : z4n x = [.int .i64 x.Kind, .int .i64 x.Num, .str x.Name, .sl (List.map z4n x.Kids)] := by
 cases x; rw [z4n, zdx]
theorem zjr (x : z1m) : (z4n x).length = 4 := by rw [za0]; rfl
mutual
def za1 : z4p → List PV
 | .mk z_Tag z_Var z_Body => [.str z_Tag, .str z_Var, .sl (z7y z_Body)]
def zbm : List z4p → List (List PV)
 | [] => []
 | x :: xs => za1 x :: zbm xs
def z41 : z0t → List PV
 | .mk z_Kind z_Name z_Tag z_E z_C z_Body z_Else z_Arms => [.int .i64 z_Kind, .str z_Name, .str z_Tag, .int .i64 z_E.Kind, .int .i64 z_E.Num, .str z_E.Name, .sl (List.map z4n z_E.Kids), .int .i64 z_C.Op, .int .i64 z_C.L.Kind, .int .i64 z_C.L.Num, .str z_C.L.Name, .sl (List.map z4n z_C.L.Kids), .int .i64 z_C.R.Kind, .int .i64 z_C.R.Num, .str z_C.R.Name, .sl (List.map z4n z_C.R.Kids), .sl (z7y z_Body), .sl (z7y z_Else), .sl (zbm z_Arms)]
def z7y : List z0t → List (List PV)
 | [] => []
 | x :: xs => z41 x :: z7y xs
end
theorem zf8 : ∀ l, zbm l = List.map za1 l
 | [] => by rw [zbm]; rfl
 | x :: xs => by rw [zbm, zf8 xs]; rfl
theorem zbn : ∀ l, z7y l = List.map z41 l
 | [] => by rw [z7y]; rfl
 | x :: xs => by rw [z7y, zbn xs]; rfl
theorem zao (x : z4p) : za1 x = [.str x.Tag, .str x.Var, .sl (List.map z41 x.Body)] := by
 cases x; rw [za1]; simp only [zbn]; first | done | rfl
theorem zl0 (x : z4p) : (za1 x).length = 3 := by rw [zao]; rfl
theorem zd0 (x : z0t) : z41 x = [.int .i64 x.Kind, .str x.Name, .str x.Tag, .int .i64 x.E.Kind, .int .i64 x.E.Num, .str x.E.Name, .sl (List.map z4n x.E.Kids), .int .i64 x.C.Op, .int .i64 x.C.L.Kind, .int .i64 x.C.L.Num, .str x.C.L.Name, .sl (List.map z4n x.C.L.Kids), .int .i64 x.C.R.Kind, .int .i64 x.C.R.Num, .str x.C.R.Name, .sl (List.map z4n x.C.R.Kids), .sl (List.map z41 x.Body), .sl (List.map z41 x.Else), .sl (List.map za1 x.Arms)] := by
 cases x; rw [z41]; simp only [zf8, zbn]; first | done | rfl
theorem zf9 (x : z0t) : (z41 x).length = 19 := by rw [zd0]; rfl

def zbd (x : z9z) : List PV := [.str x.Name, .sl (List.map z0v x.Vars), .sl (List.map z41 x.Body)]
def z5n (x : z43) : List PV := [.sl (List.map zbb x.Chans), .sl (List.map z7m x.Rules), .sl (List.map zbd x.Procs)]
mutual
def z0w : z04 → List PV
 | .mk z_Kind z_Num z_Name z_Kids => [.int .i64 z_Kind, .int .i64 z_Num, .str z_Name, .sl (zc3 z_Kids)]
def zc3 : List z04 → List (List PV)
 | [] => []
 | x :: xs => z0w x :: zc3 xs
end
theorem zdy : ∀ l, zc3 l = List.map z0w l
 | [] => rfl
 | x :: xs => by rw [zc3, zdy xs]; rfl
theorem z42 (x : z04) : z0w x = [.int .i64 x.Kind, .int .i64 x.Num, .str x.Name, .sl (List.map z0w x.Kids)] := by
 cases x; rw [z0w, zdy]
theorem zjs (x : z04) : (z0w x).length = 4 := by rw [z42]; rfl
def z9j (x : z31) : List PV := [.int .i64 x.Op, .int .i64 x.L.Kind, .int .i64 x.L.Num, .str x.L.Name, .sl (List.map z0w x.L.Kids), .int .i64 x.R.Kind, .int .i64 x.R.Num, .str x.R.Name, .sl (List.map z0w x.R.Kids)]
def zet (x : z7t) : List PV := [.int .i64 x.Op, .int .i64 x.L.Kind, .int .i64 x.L.Num, .str x.L.Name, .sl (List.map z4n x.L.Kids), .int .i64 x.R.Kind, .int .i64 x.R.Num, .str x.R.Name, .sl (List.map z4n x.R.Kids)]
mutual
def z1n : z0m → List PV
 | .mk z_Tag z_Var z_Body => [.str z_Tag, .str z_Var, .sl (z7z z_Body)]
def zbo : List z0m → List (List PV)
 | [] => []
 | x :: xs => z1n x :: zbo xs
def z0j : z03 → List PV
 | .mk z_Kind z_Name z_Tag z_E z_C z_Body z_Else z_Arms => [.int .i64 z_Kind, .str z_Name, .str z_Tag, .int .i64 z_E.Kind, .int .i64 z_E.Num, .str z_E.Name, .sl (List.map z0w z_E.Kids), .int .i64 z_C.Op, .int .i64 z_C.L.Kind, .int .i64 z_C.L.Num, .str z_C.L.Name, .sl (List.map z0w z_C.L.Kids), .int .i64 z_C.R.Kind, .int .i64 z_C.R.Num, .str z_C.R.Name, .sl (List.map z0w z_C.R.Kids), .sl (z7z z_Body), .sl (z7z z_Else), .sl (zbo z_Arms)]
def z7z : List z03 → List (List PV)
 | [] => []
 | x :: xs => z0j x :: z7z xs
end
theorem zfa : ∀ l, zbo l = List.map z1n l
 | [] => by rw [zbo]; rfl
 | x :: xs => by rw [zbo, zfa xs]; rfl
theorem zbp : ∀ l, z7z l = List.map z0j l
 | [] => by rw [z7z]; rfl
 | x :: xs => by rw [z7z, zbp xs]; rfl
theorem z81 (x : z0m) : z1n x = [.str x.Tag, .str x.Var, .sl (List.map z0j x.Body)] := by
 cases x; rw [z1n]; simp only [zbp]; first | done | rfl
theorem zd1 (x : z0m) : (z1n x).length = 3 := by rw [z81]; rfl
theorem z3l (x : z03) : z0j x = [.int .i64 x.Kind, .str x.Name, .str x.Tag, .int .i64 x.E.Kind, .int .i64 x.E.Num, .str x.E.Name, .sl (List.map z0w x.E.Kids), .int .i64 x.C.Op, .int .i64 x.C.L.Kind, .int .i64 x.C.L.Num, .str x.C.L.Name, .sl (List.map z0w x.C.L.Kids), .int .i64 x.C.R.Kind, .int .i64 x.C.R.Num, .str x.C.R.Name, .sl (List.map z0w x.C.R.Kids), .sl (List.map z0j x.Body), .sl (List.map z0j x.Else), .sl (List.map z1n x.Arms)] := by
 cases x; rw [z0j]; simp only [zfa, zbp]; first | done | rfl
theorem zfb (x : z03) : (z0j x).length = 19 := by rw [z3l]; rfl

def z0k (x : z2h) : List PV := [.str x.Name, .sl (List.map z0v x.Vars), .sl (List.map z0j x.Body)]
def z3t (x : z16) : List PV := [.sl (List.map z1u x.Chans), .sl (List.map z28 x.Rules), .sl (List.map z0k x.Procs)]
structure z01 where
 f_out : (List ByteArray)
 f_form : Bool
 f_deep : Bool
 f_blocks : Int
 f_parens : Int
def z1c (x : z0e) : List PV := [.int .i64 x.Kind, .str x.Text, .int .i64 x.Num, .int .i64 x.At]
structure z00 where
 f_l : (List z0e)
 f_end : Int
 f_e : Int
 f_at : Int
 f_deep : Int
 f_in : Int
def z02 (x : z00) : List PV := [.sl (List.map z1c x.f_l), .int .i64 x.f_end, .int .i64 x.f_e, .int .i64 x.f_at, .int .i64 x.f_deep, .int .i64 x.f_in]

def zkd (x : z0t) : List PV := [.int .i64 x.Kind, .str x.Name, .str x.Tag, .int .i64 x.E.Kind, .int .i64 x.E.Num, .str x.E.Name, .sl (List.map z4n x.E.Kids), .int .i64 x.C.Op, .int .i64 x.C.L.Kind, .int .i64 x.C.L.Num, .str x.C.L.Name, .sl (List.map z4n x.C.L.Kids), .int .i64 x.C.R.Kind, .int .i64 x.C.R.Num, .str x.C.R.Name, .sl (List.map z4n x.C.R.Kids), .sl (List.map z41 x.Body), .sl (List.map z41 x.Else), .sl (List.map za1 x.Arms)]
def z9k (x : z1m) : List PV := [.int .i64 x.Kind, .int .i64 x.Num, .str x.Name, .sl (List.map z4n x.Kids)]
def z0d (x : z04) : List PV := [.int .i64 x.Kind, .int .i64 x.Num, .str x.Name, .sl (List.map z0w x.Kids)]
def zj5 (x : z4p) : List PV := [.str x.Tag, .str x.Var, .sl (List.map z41 x.Body)]
def z1q (x : z03) : List PV := [.int .i64 x.Kind, .str x.Name, .str x.Tag, .int .i64 x.E.Kind, .int .i64 x.E.Num, .str x.E.Name, .sl (List.map z0w x.E.Kids), .int .i64 x.C.Op, .int .i64 x.C.L.Kind, .int .i64 x.C.L.Num, .str x.C.L.Name, .sl (List.map z0w x.C.L.Kids), .int .i64 x.C.R.Kind, .int .i64 x.C.R.Num, .str x.C.R.Name, .sl (List.map z0w x.C.R.Kids), .sl (List.map z0j x.Body), .sl (List.map z0j x.Else), .sl (List.map z1n x.Arms)]
def z5p (x : z0m) : List PV := [.str x.Tag, .str x.Var, .sl (List.map z0j x.Body)]
noncomputable def za9 (F_l02_Expr : z1m → Option z04) (a0 : z1m) (x1 : (Int × (List z04))) : Option (Sum (Int × (List z04)) (Sum z04 (List z04))) :=
 if (decide (x1.1 < (a0.Kids.length : Int))) then (idx a0.Kids x1.1 >>= fun v1 =>
 F_l02_Expr v1 >>= fun v2 =>
 app 56 x1.2 [v2] >>= fun v3 =>
 some (.inl ((IntKind.i64.wrap (x1.1 + 1)), v3)))
 else (some (.inr (.inr x1.2)))

def z7n (r : z04) : List XV := [.agg (bs (z0d r))]

def zke (r : z04) : z0s := []

noncomputable def zrs (r : z04) : Tg := .r false Tryz.f73.results.toList 0 (z7n r) (zke r)

noncomputable def z8x : Nat → z1m → Option z04
  | 0, _ => none
  | n + 1, a0 => iter (za9 (z8x n) a0) (0, []) >>= Sum.elim (fun _ => none) (fun j1 =>
 some (z04.mk a0.Kind a0.Num a0.Name j1))

noncomputable def zgl (a0 : z1m) : Option z04 := unf fun n => z8x n a0

noncomputable def zgm (a0 : z7t) : Option z31 :=
 zgl a0.L >>= fun v1 =>
 zgl a0.R >>= fun v2 =>
 some (z31.mk a0.Op v1 v2)

def zhg (r : z31) : List XV := [.agg (bs (z9j r))]

def zrt (r : z31) : z0s := []

noncomputable def z9l (F_l02_Stmts : (List z0t) → Option (List z03)) (v1 : z0t) (x2 : (Int × (List z0m))) : Option (Sum (Int × (List z0m)) (Sum (List z03) (List z0m))) :=
 if (decide (x2.1 < (v1.Arms.length : Int))) then (idx v1.Arms x2.1 >>= fun v6 =>
 F_l02_Stmts v6.Body >>= fun v7 =>
 app 56 x2.2 [(z0m.mk v6.Tag v6.Var v7)] >>= fun v8 =>
 some (.inl ((IntKind.i64.wrap (x2.1 + 1)), v8)))
 else (some (.inr (.inr x2.2)))

noncomputable def z9m (F_l02_Stmts : (List z0t) → Option (List z03)) (a0 : (List z0t)) (x1 : (Int × (List z03))) : Option (Sum (Int × (List z03)) (Sum (List z03) (List z03))) :=
 if (decide (x1.1 < (a0.length : Int))) then (idx a0 x1.1 >>= fun v1 =>
 zgl v1.E >>= fun v2 =>
 zgm v1.C >>= fun v3 =>
 F_l02_Stmts v1.Body >>= fun v4 =>
 F_l02_Stmts v1.Else >>= fun v5 =>
 iter (z9l F_l02_Stmts v1) (0, []) >>= Sum.elim (fun _ => none) (fun j2 =>
 app 288 x1.2 [(z03.mk v1.Kind v1.Name v1.Tag v2 v3 v4 v5 j2)] >>= fun v9 =>
 some (.inl ((IntKind.i64.wrap (x1.1 + 1)), v9))))
 else (some (.inr (.inr x1.2)))

def z6z (r : (List z03)) : List XV := [xL (List.map z0j r)]

def zj6 (r : (List z03)) : z0s := []

noncomputable def zj7 (r : (List z03)) : Tg := .r false Tryz.f43.results.toList 0 (z6z r) (zj6 r)

noncomputable def z6u : Nat → (List z0t) → Option (List z03)
  | 0, _ => none
  | n + 1, a0 => iter (z9m (z6u n) a0) (0, []) >>= Sum.elim (fun _ => none) (fun j1 =>
 some j1)

noncomputable def zj8 (a0 : (List z0t)) : Option (List z03) := unf fun n => z6u n a0

noncomputable def z8d (a0 : z43) (x1 : (Int × (List z23))) : Option (Sum (Int × (List z23)) (Sum z16 (List z23))) :=
 if (decide (x1.1 < (a0.Chans.length : Int))) then (idx a0.Chans x1.1 >>= fun v1 =>
 app 16 [] v1.Tags >>= fun v2 =>
 app 88 x1.2 [(z23.mk v1.Name v1.Kind v1.Size v1.From v1.To v2)] >>= fun v3 =>
 some (.inl ((IntKind.i64.wrap (x1.1 + 1)), v3)))
 else (some (.inr (.inr x1.2)))

noncomputable def z8e (a0 : z43) (x2 : (Int × (List z2g))) (x3 : (Int × (List z3s))) : Option (Sum (Int × (List z3s)) (Sum z16 (List z3s))) :=
 idx a0.Rules x2.1 >>= fun v5 =>
 if (decide (x3.1 < (v5.Moves.length : Int))) then (idx a0.Rules x2.1 >>= fun v6 =>
 idx v6.Moves x3.1 >>= fun v7 =>
 app 32 x3.2 [(z3s.mk v7.From v7.Tag v7.To)] >>= fun v8 =>
 some (.inl ((IntKind.i64.wrap (x3.1 + 1)), v8)))
 else (some (.inr (.inr x3.2)))

noncomputable def z8f (a0 : z43) (x2 : (Int × (List z2g))) : Option (Sum (Int × (List z2g)) (Sum z16 (List z2g))) :=
 if (decide (x2.1 < (a0.Rules.length : Int))) then (idx a0.Rules x2.1 >>= fun v4 =>
 iter (z8e a0 x2) (0, []) >>= Sum.elim (fun _ => none) (fun j3 =>
 app 40 x2.2 [(z2g.mk v4.Chan j3)] >>= fun v9 =>
 some (.inl ((IntKind.i64.wrap (x2.1 + 1)), v9))))
 else (some (.inr (.inr x2.2)))

noncomputable def z8g (a0 : z43) (x4 : (Int × (List z2h))) : Option (Sum (Int × (List z2h)) (Sum z16 (List z2h))) :=
 if (decide (x4.1 < (a0.Procs.length : Int))) then (idx a0.Procs x4.1 >>= fun v10 =>
 app 16 [] v10.Vars >>= fun v11 =>
 zj8 v10.Body >>= fun v12 =>
 app 64 x4.2 [(z2h.mk v10.Name v11 v12)] >>= fun v13 =>
 some (.inl ((IntKind.i64.wrap (x4.1 + 1)), v13)))
 else (some (.inr (.inr x4.2)))

noncomputable def zcg (a0 : z43) : Option z16 :=
 iter (z8d a0) (0, []) >>= Sum.elim (fun _ => none) (fun j1 =>
 iter (z8f a0) (0, []) >>= Sum.elim (fun _ => none) (fun j2 =>
 iter (z8g a0) (0, []) >>= Sum.elim (fun _ => none) (fun j4 =>
 some (z16.mk j1 j2 j4))))

def zc4 (r : z16) : List XV := [.agg (bs (z3t r))]

def zhz (r : z16) : z0s := []

noncomputable def zc5 (r : z16) : Tg := .r false Tryz.f13.results.toList 0 (zc4 r) (zhz r)

noncomputable def z07 (a0 : z01) (a1 : (List ByteArray)) : Option z01 :=
 app 16 a0.f_out a1 >>= fun v1 =>
 some (z01.mk v1 a0.f_form a0.f_deep a0.f_blocks a0.f_parens)

def z0a (r : z01) : List XV := []

def z0b (r : z01) : z0s := [oB 135 [.row 1, .pv (.bool r.f_form), .pv (.bool r.f_deep), .pv (.int .i64 r.f_blocks), .pv (.int .i64 r.f_parens)], oR true 9 1 (List.map z0v r.f_out)]

noncomputable def zbe (a0 : Int) : Option Bool :=
 if (decide (a0 ≥ 97)) then (some (decide (a0 ≤ 122)))
 else (some false)

def zap (r : Bool) : List XV := [xB r]

def zmk (r : Bool) : z0s := []

noncomputable def zch (a0 : Int) : Option Bool :=
 if (decide (a0 ≥ 48)) then (some (decide (a0 ≤ 57)))
 else (some false)

def zd2 (r : Bool) : List XV := [xB r]

def zob (r : Bool) : z0s := []

noncomputable def zaa (a0 : ByteArray) (x1 : Int) : Option (Sum Int (Sum Int Int)) :=
 ((if (decide (x1 < (a0.size : Int))) then (bidx a0 x1 >>= fun v1 =>
 zbe v1 >>= fun v2 =>
 if v2 then (some true)
 else (bidx a0 x1 >>= fun v3 =>
 zch v3 >>= fun v4 =>
 some v4))
 else (some false) : Option Bool) >>= fun j2 =>
 if j2 then (some (.inl (IntKind.i64.wrap (x1 + 1))))
 else (some (.inr (.inr x1))))

noncomputable def zhh (a0 : ByteArray) : Option Int :=
 iter (zaa a0) 0 >>= Sum.elim (fun _ => none) (fun j1 =>
 some j1)

def zdz (r : Int) : List XV := [xI r]

def zml (r : Int) : z0s := []

noncomputable def zu0 (r : Int) : Tg := .r false Tryz.f92.results.toList 0 (zdz r) (zml r)

noncomputable def zaq (a0 : ByteArray) : Option Bool :=
 if (a0.toList == (ByteArray.mk #[99, 104, 97, 110]).toList) then (some true)
 else (if (a0.toList == (ByteArray.mk #[98, 108, 111, 99, 107]).toList) then (some true)
 else (if (a0.toList == (ByteArray.mk #[100, 114, 111, 112]).toList) then (some true)
 else (if (a0.toList == (ByteArray.mk #[108, 111, 115, 115, 121]).toList) then (some true)
 else (if (a0.toList == (ByteArray.mk #[102, 114, 111, 109]).toList) then (some true)
 else (if (a0.toList == (ByteArray.mk #[116, 111]).toList) then (some true)
 else (if (a0.toList == (ByteArray.mk #[114, 117, 108, 101]).toList) then (some true)
 else (if (a0.toList == (ByteArray.mk #[112, 114, 111, 99]).toList) then (some true)
 else (if (a0.toList == (ByteArray.mk #[118, 97, 114]).toList) then (some true)
 else (if (a0.toList == (ByteArray.mk #[105, 102]).toList) then (some true)
 else (if (a0.toList == (ByteArray.mk #[101, 108, 115, 101]).toList) then (some true)
 else (if (a0.toList == (ByteArray.mk #[119, 104, 105, 108, 101]).toList) then (some true)
 else (if (a0.toList == (ByteArray.mk #[115, 101, 110, 100]).toList) then (some true)
 else (if (a0.toList == (ByteArray.mk #[114, 101, 99, 118]).toList) then (some true)
 else (if (a0.toList == (ByteArray.mk #[97, 115, 115, 101, 114, 116]).toList) then (some true)
 else (if (a0.toList == (ByteArray.mk #[105, 110, 112, 117, 116]).toList) then (some true)
 else (some false))))))))))))))))

def zcc (r : Bool) : List XV := [xB r]

def zjt (r : Bool) : z0s := []

noncomputable def zci (a0 : ByteArray) : Option (z0e × Int) :=
 if (decide ((a0.size : Int) > 12)) then (some ((z0e.mk 0 (ByteArray.mk #[]) 0 0), 3))
 else (zaq a0 >>= fun v1 =>
 if v1 then (some ((z0e.mk 4 a0 0 0), 0))
 else (some ((z0e.mk 1 a0 0 0), 0)))

def zfq (r : (z0e × Int)) : List XV := [.agg (bs (z1c r.1)), xI r.2]

def zoc (r : (z0e × Int)) : z0s := []

def zpy (r : (Int × Int)) : List XV := [xI r.1, xI r.2]

def zod (r : Int) : List XV := [xI r]

noncomputable def zgn (a0 : ByteArray) : Option Int :=
 ((if (decide ((a0.size : Int) > 1)) then (bidx a0 1 >>= fun v1 =>
 if (v1 == 61) then (bidx a0 0 >>= fun v2 =>
 zoe (ByteArray.mk #[61, 33, 60, 62]) v2 >>= fun v3 =>
 some (decide (v3 ≥ 0)))
 else (some false))
 else (some false) : Option Bool) >>= fun j1 =>
 if j1 then (some 2)
 else (bidx a0 0 >>= fun v4 =>
 zoe (ByteArray.mk #[123, 125, 40, 41, 59, 44, 46, 61, 60, 62, 43, 45, 42, 47, 37]) v4 >>= fun v5 =>
 if (decide (v5 ≥ 0)) then (some 1)
 else (some 0)))

def zhi (r : Int) : List XV := [xI r]

def zru (r : Int) : z0s := []

noncomputable def zd3 (a0 : ByteArray) : Option (z0e × Int) :=
 bidx a0 0 >>= fun v1 =>
 zbe v1 >>= fun v2 =>
 if v2 then (zhh a0 >>= fun v3 =>
 ssub a0 0 v3 >>= fun v4 =>
 zci v4 >>= fun v5 =>
 some (v5.1, v5.2))
 else (bidx a0 0 >>= fun v6 =>
 zch v6 >>= fun v7 =>
 if v7 then (zhh a0 >>= fun v8 =>
 ssub a0 0 v8 >>= fun v9 =>
 zj9 v9 >>= fun v10 =>
 some ((z0e.mk 2 v9 v10.1 0), v10.2))
 else (zgn a0 >>= fun v11 =>
 if (v11 == 0) then (some ((z0e.mk 0 (ByteArray.mk #[]) 0 0), 2))
 else (ssub a0 0 v11 >>= fun v12 =>
 some ((z0e.mk 3 v12 0 0), 0))))

def zhj (r : (z0e × Int)) : List XV := [.agg (bs (z1c r.1)), xI r.2]

def zrv (r : (z0e × Int)) : z0s := []

noncomputable def zab (a0 : ByteArray) (x1 : (Int × (List z0e))) : Option (Sum (Int × (List z0e)) (Sum ((List z0e) × Int × Int) (List z0e))) :=
 if (decide (x1.1 < (a0.size : Int))) then (((bidx a0 x1.1 >>= fun v1 =>
 if (v1 == 32) then (some true)
 else (bidx a0 x1.1 >>= fun v2 =>
 some (v2 == 10)) : Option Bool) >>= fun j2 =>
 if j2 then (some (.inl ((IntKind.i64.wrap (x1.1 + 1)), x1.2)))
 else (ssub a0 x1.1 (a0.size : Int) >>= fun v3 =>
 zd3 v3 >>= fun v4 =>
 if (v4.2 != 0) then (some (.inr (.inl ([], x1.1, v4.2))))
 else (app 40 x1.2 [(z0e.mk v4.1.Kind v4.1.Text v4.1.Num x1.1)] >>= fun v5 =>
 some (.inl ((IntKind.i64.wrap (x1.1 + (v4.1.Text.size : Int))), v5))))))
 else (some (.inr (.inr x1.2)))

noncomputable def ze0 (a0 : ByteArray) : Option ((List z0e) × Int × Int) :=
 iter (zab a0) (0, []) >>= Sum.elim (fun r => some r) (fun j1 =>
 if (decide ((j1.length : Int) > 2000)) then (some ([], (a0.size : Int), 4))
 else (some (j1, 0, 0)))

def ze1 (r : ((List z0e) × Int × Int)) : List XV := [xL (List.map z1c r.1), xI r.2.1, xI r.2.2]

def zmm (r : ((List z0e) × Int × Int)) : z0s := []

noncomputable def zu1 (r : ((List z0e) × Int × Int)) : Tg := .r false Tryz.f19.results.toList 0 (ze1 r) (zmm r)

noncomputable def z2m (a0 : z01) (a1 : Bool) : Option z01 :=
 if a0.f_form then (some (z01.mk a0.f_out true a0.f_deep a0.f_blocks a0.f_parens))
 else (some (z01.mk a0.f_out (!a1) a0.f_deep a0.f_blocks a0.f_parens))

def z2y (r : z01) : List XV := []

def z2z (r : z01) : z0s := [oB 135 [.row 1, .pv (.bool r.f_form), .pv (.bool r.f_deep), .pv (.int .i64 r.f_blocks), .pv (.int .i64 r.f_parens)], oR true 9 1 (List.map z0v r.f_out)]

noncomputable def z18 (a0 : z01) (a1 : ByteArray) : Option z01 :=
 ze0 a1 >>= fun v1 =>
 ((if (v1.2.2 == 0) then (if ((v1.1.length : Int) == 1) then (idx v1.1 0 >>= fun v2 =>
 if (v2.Kind == 1) then (idx v1.1 0 >>= fun v3 =>
 z2m a0 (v3.Text.toList == a1.toList) >>= fun v4 =>
 some (v4.f_form, v4.f_deep, v4.f_blocks, v4.f_parens, v4.f_out))
 else (z2m a0 false >>= fun v5 =>
 some (v5.f_form, v5.f_deep, v5.f_blocks, v5.f_parens, v5.f_out)))
 else (z2m a0 false >>= fun v6 =>
 some (v6.f_form, v6.f_deep, v6.f_blocks, v6.f_parens, v6.f_out)))
 else (z2m a0 false >>= fun v7 =>
 some (v7.f_form, v7.f_deep, v7.f_blocks, v7.f_parens, v7.f_out)) : Option (Bool × Bool × Int × Int × (List ByteArray))) >>= fun j1 =>
 z07 (z01.mk j1.2.2.2.2 j1.1 j1.2.1 j1.2.2.1 j1.2.2.2.1) [a1] >>= fun v8 =>
 some v8)

def z1j (r : z01) : List XV := []

def z1k (r : z01) : z0s := [oB 135 [.row 1, .pv (.bool r.f_form), .pv (.bool r.f_deep), .pv (.int .i64 r.f_blocks), .pv (.int .i64 r.f_parens)], oR true 9 1 (List.map z0v r.f_out)]

def zy4 (r : ByteArray) : List XV := [xS r]

noncomputable def z44 (a0 : z01) (a1 : Int) : Option z01 :=
 ((if (decide (a1 ≥ 0)) then (z2m a0 (decide (a1 ≤ 2147483647)) >>= fun v1 =>
 some (v1.f_form, v1.f_deep, v1.f_blocks, v1.f_parens, v1.f_out))
 else (z2m a0 false >>= fun v2 =>
 some (v2.f_form, v2.f_deep, v2.f_blocks, v2.f_parens, v2.f_out)) : Option (Bool × Bool × Int × Int × (List ByteArray))) >>= fun j1 =>
 itoa a1 >>= fun v3 =>
 z07 (z01.mk j1.2.2.2.2 j1.1 j1.2.1 j1.2.2.1 j1.2.2.2.1) [v3] >>= fun v4 =>
 some v4)

def z5s (r : z01) : List XV := []

def z5t (r : z01) : z0s := [oB 135 [.row 1, .pv (.bool r.f_form), .pv (.bool r.f_deep), .pv (.int .i64 r.f_blocks), .pv (.int .i64 r.f_parens)], oR true 9 1 (List.map z0v r.f_out)]

noncomputable def z4q (a1 : z23) (x2 : (Int × Bool × Bool × Int × Int × (List ByteArray))) : Option (Sum (Int × Bool × Bool × Int × Int × (List ByteArray)) (Sum z01 (Bool × Bool × Int × Int × (List ByteArray)))) :=
 if (decide (x2.1 < (a1.Tags.length : Int))) then (((idx a1.Tags x2.1 >>= fun v11 =>
 if (decide (x2.1 > 0)) then (z07 (z01.mk x2.2.2.2.2.2 x2.2.1 x2.2.2.1 x2.2.2.2.1 x2.2.2.2.2.1) [(ByteArray.mk #[44])] >>= fun v12 =>
 z18 v12 v11 >>= fun v13 =>
 some (v13.f_form, v13.f_deep, v13.f_blocks, v13.f_parens, v13.f_out))
 else (z18 (z01.mk x2.2.2.2.2.2 x2.2.1 x2.2.2.1 x2.2.2.2.1 x2.2.2.2.2.1) v11 >>= fun v14 =>
 some (v14.f_form, v14.f_deep, v14.f_blocks, v14.f_parens, v14.f_out)) : Option (Bool × Bool × Int × Int × (List ByteArray))) >>= fun j3 =>
 some (.inl ((IntKind.i64.wrap (x2.1 + 1)), j3.1, j3.2.1, j3.2.2.1, j3.2.2.2.1, j3.2.2.2.2))))
 else (some (.inr (.inr (x2.2.1, x2.2.2.1, x2.2.2.2.1, x2.2.2.2.2.1, x2.2.2.2.2.2))))

noncomputable def z4r (a1 : z23) (x4 : (Int × Bool × Bool × Int × Int × (List ByteArray))) : Option (Sum (Int × Bool × Bool × Int × Int × (List ByteArray)) (Sum z01 (Bool × Bool × Int × Int × (List ByteArray)))) :=
 if (decide (x4.1 < (a1.Tags.length : Int))) then (((idx a1.Tags x4.1 >>= fun v25 =>
 if (decide (x4.1 > 0)) then (z07 (z01.mk x4.2.2.2.2.2 x4.2.1 x4.2.2.1 x4.2.2.2.1 x4.2.2.2.2.1) [(ByteArray.mk #[44])] >>= fun v26 =>
 z18 v26 v25 >>= fun v27 =>
 some (v27.f_form, v27.f_deep, v27.f_blocks, v27.f_parens, v27.f_out))
 else (z18 (z01.mk x4.2.2.2.2.2 x4.2.1 x4.2.2.1 x4.2.2.2.1 x4.2.2.2.2.1) v25 >>= fun v28 =>
 some (v28.f_form, v28.f_deep, v28.f_blocks, v28.f_parens, v28.f_out)) : Option (Bool × Bool × Int × Int × (List ByteArray))) >>= fun j5 =>
 some (.inl ((IntKind.i64.wrap (x4.1 + 1)), j5.1, j5.2.1, j5.2.2.1, j5.2.2.2.1, j5.2.2.2.2))))
 else (some (.inr (.inr (x4.2.1, x4.2.2.1, x4.2.2.2.1, x4.2.2.2.2.1, x4.2.2.2.2.2))))

noncomputable def z62 (a0 : z01) (a1 : z23) : Option z01 :=
 z07 a0 [(ByteArray.mk #[99, 104, 97, 110])] >>= fun v1 =>
 z18 v1 a1.Name >>= fun v2 =>
 ((if (decide (a1.Kind < 0)) then (some true)
 else (some (decide (a1.Kind ≥ 3))) : Option Bool) >>= fun j1 =>
 if j1 then (z2m v2 false >>= fun v3 =>
 z44 v3 a1.Size >>= fun v4 =>
 z07 v4 [(ByteArray.mk #[102, 114, 111, 109])] >>= fun v5 =>
 z18 v5 a1.From >>= fun v6 =>
 z07 v6 [(ByteArray.mk #[116, 111])] >>= fun v7 =>
 z18 v7 a1.To >>= fun v8 =>
 z07 v8 [(ByteArray.mk #[123])] >>= fun v9 =>
 z2m v9 (decide ((a1.Tags.length : Int) > 0)) >>= fun v10 =>
 iter (z4q a1) (0, v10.f_form, v10.f_deep, v10.f_blocks, v10.f_parens, v10.f_out) >>= Sum.elim (fun _ => none) (fun j2 =>
 z07 (z01.mk j2.2.2.2.2 j2.1 j2.2.1 j2.2.2.1 j2.2.2.2.1) [(ByteArray.mk #[125]), (ByteArray.mk #[59])] >>= fun v15 =>
 some v15))
 else (idx [(ByteArray.mk #[98, 108, 111, 99, 107]), (ByteArray.mk #[100, 114, 111, 112]), (ByteArray.mk #[108, 111, 115, 115, 121])] a1.Kind >>= fun v16 =>
 z07 v2 [v16] >>= fun v17 =>
 z44 v17 a1.Size >>= fun v18 =>
 z07 v18 [(ByteArray.mk #[102, 114, 111, 109])] >>= fun v19 =>
 z18 v19 a1.From >>= fun v20 =>
 z07 v20 [(ByteArray.mk #[116, 111])] >>= fun v21 =>
 z18 v21 a1.To >>= fun v22 =>
 z07 v22 [(ByteArray.mk #[123])] >>= fun v23 =>
 z2m v23 (decide ((a1.Tags.length : Int) > 0)) >>= fun v24 =>
 iter (z4r a1) (0, v24.f_form, v24.f_deep, v24.f_blocks, v24.f_parens, v24.f_out) >>= Sum.elim (fun _ => none) (fun j4 =>
 z07 (z01.mk j4.2.2.2.2 j4.1 j4.2.1 j4.2.2.1 j4.2.2.2.1) [(ByteArray.mk #[125]), (ByteArray.mk #[59])] >>= fun v29 =>
 some v29)))

def z8p (r : z01) : List XV := []

def z8q (r : z01) : z0s := [oB 135 [.row 1, .pv (.bool r.f_form), .pv (.bool r.f_deep), .pv (.int .i64 r.f_blocks), .pv (.int .i64 r.f_parens)], oR true 9 1 (List.map z0v r.f_out)]

noncomputable def zb2 (r : z01) : Tg := .r false Tryz.f52.results.toList 2 (z8p r) (z8q r)

noncomputable def z5h (a1 : z2g) (x1 : (Int × Bool × Bool × Int × Int × (List ByteArray))) : Option (Sum (Int × Bool × Bool × Int × Int × (List ByteArray)) (Sum z01 (Bool × Bool × Int × Int × (List ByteArray)))) :=
 if (decide (x1.1 < (a1.Moves.length : Int))) then (idx a1.Moves x1.1 >>= fun v4 =>
 z44 (z01.mk x1.2.2.2.2.2 x1.2.1 x1.2.2.1 x1.2.2.2.1 x1.2.2.2.2.1) v4.From >>= fun v5 =>
 z18 v5 v4.Tag >>= fun v6 =>
 z44 v6 v4.To >>= fun v7 =>
 z07 v7 [(ByteArray.mk #[59])] >>= fun v8 =>
 some (.inl ((IntKind.i64.wrap (x1.1 + 1)), v8.f_form, v8.f_deep, v8.f_blocks, v8.f_parens, v8.f_out)))
 else (some (.inr (.inr (x1.2.1, x1.2.2.1, x1.2.2.2.1, x1.2.2.2.2.1, x1.2.2.2.2.2))))

noncomputable def z78 (a0 : z01) (a1 : z2g) : Option z01 :=
 z07 a0 [(ByteArray.mk #[114, 117, 108, 101])] >>= fun v1 =>
 z18 v1 a1.Chan >>= fun v2 =>
 z07 v2 [(ByteArray.mk #[123])] >>= fun v3 =>
 iter (z5h a1) (0, v3.f_form, v3.f_deep, v3.f_blocks, v3.f_parens, v3.f_out) >>= Sum.elim (fun _ => none) (fun j1 =>
 z07 (z01.mk j1.2.2.2.2 j1.1 j1.2.1 j1.2.2.1 j1.2.2.2.1) [(ByteArray.mk #[125])] >>= fun v9 =>
 some v9)

def zac (r : z01) : List XV := []

def zad (r : z01) : z0s := [oB 135 [.row 1, .pv (.bool r.f_form), .pv (.bool r.f_deep), .pv (.int .i64 r.f_blocks), .pv (.int .i64 r.f_parens)], oR true 9 1 (List.map z0v r.f_out)]

noncomputable def zhk (r : z01) : Tg := .r false Tryz.f53.results.toList 2 (zac r) (zad r)

noncomputable def zd4 (a0 : Int) : Option Bool :=
 if (decide (a0 ≥ 4)) then (some (decide (a0 ≤ 8)))
 else (some false)

def zbf (r : Bool) : List XV := [xB r]

def zrw (r : Bool) : z0s := []

noncomputable def ze2 (a0 : Int) : Option Bool :=
 if (a0 == 4) then (some true)
 else (some (a0 == 5))

def z8y (r : Bool) : List XV := [xB r]

def zu2 (r : Bool) : z0s := []

noncomputable def z82 (a0 : z01) (a1 : z04) : Option z01 :=
 z2m a0 ((a1.Kids.length : Int) == 0) >>= fun v1 =>
 if (a1.Kind == 1) then (z44 v1 a1.Num >>= fun v2 =>
 some v2)
 else (z2m v1 (a1.Kind == 2) >>= fun v3 =>
 z18 v3 a1.Name >>= fun v4 =>
 some v4)

def zcj (r : z01) : List XV := []

def zck (r : z01) : z0s := [oB 135 [.row 1, .pv (.bool r.f_form), .pv (.bool r.f_deep), .pv (.int .i64 r.f_blocks), .pv (.int .i64 r.f_parens)], oR true 9 1 (List.map z0v r.f_out)]

def z2p (r : z01) : List XV := []

def z2q (r : z01) : z0s := [oB 135 [.row 1, .pv (.bool r.f_form), .pv (.bool r.f_deep), .pv (.int .i64 r.f_blocks), .pv (.int .i64 r.f_parens)], oR true 9 1 (List.map z0v r.f_out)]

def z1d (r : z01) : List XV := []

def z1e (a1011 : z04) (r : z01) : z0s := [oB 135 [.row 1, .pv (.bool r.f_form), .pv (.bool r.f_deep), .pv (.int .i64 r.f_blocks), .pv (.int .i64 r.f_parens)], oR true 9 1 (List.map z0v r.f_out), oB 133 [.box 0 0], oB 103 (bs (z0d a1011))]

def z3d (r : z01) : List XV := []

def z3e (r : z01) : z0s := [oB 135 [.row 1, .pv (.bool r.f_form), .pv (.bool r.f_deep), .pv (.int .i64 r.f_blocks), .pv (.int .i64 r.f_parens)], oR true 9 1 (List.map z0v r.f_out)]

def z4f (r : z01) : List XV := []

def z4g (a1 : z04) (r : z01) : z0s := [oB 133 [.box 1 0], oB 135 [.row 2, .pv (.bool r.f_form), .pv (.bool r.f_deep), .pv (.int .i64 r.f_blocks), .pv (.int .i64 r.f_parens)], oR true 9 1 (List.map z0v r.f_out), oB 103 (bs (z0d a1))]

def z1g (r : z01) : List XV := []

def z1h (a1011 : z04) (r : z01) : z0s := [oB 135 [.row 1, .pv (.bool r.f_form), .pv (.bool r.f_deep), .pv (.int .i64 r.f_blocks), .pv (.int .i64 r.f_parens)], oR true 9 1 (List.map z0v r.f_out), oB 133 [.box 0 0], oB 103 (bs (z0d a1011))]

def z4k (r : z01) : List XV := []

def z4l (a1 : z04) (r : z01) : z0s := [oB 133 [.box 1 0], oB 135 [.row 2, .pv (.bool r.f_form), .pv (.bool r.f_deep), .pv (.int .i64 r.f_blocks), .pv (.int .i64 r.f_parens)], oR true 9 1 (List.map z0v r.f_out), oB 103 (bs (z0d a1))]

mutual
noncomputable def z1w : Nat → z01 → z04 → Option z01
  | 0, _, _ => none
  | n + 1, a0, a1 => ((if (a1.Kind == 3) then (some ((a1.Kids.length : Int) == 1))
 else (some false) : Option Bool) >>= fun j1 =>
 if j1 then (z07 a0 [(ByteArray.mk #[45])] >>= fun v1 =>
 (z0r n) v1 a1 >>= fun v2 =>
 some v2)
 else (((zd4 a1.Kind >>= fun v3 =>
 if v3 then (some ((a1.Kids.length : Int) == 2))
 else (some false) : Option Bool) >>= fun j2 =>
 if j2 then (idx a1.Kids 0 >>= fun v4 =>
 idx a1.Kids 1 >>= fun v5 =>
 ((ze2 a1.Kind >>= fun v6 =>
 if (!v6) then (ze2 v4.Kind >>= fun v7 =>
 (z1y n) a0 v4 v7 >>= fun v8 =>
 some (v8.f_form, v8.f_deep, v8.f_blocks, v8.f_parens, v8.f_out))
 else ((z1y n) a0 v4 false >>= fun v9 =>
 some (v9.f_form, v9.f_deep, v9.f_blocks, v9.f_parens, v9.f_out)) : Option (Bool × Bool × Int × Int × (List ByteArray))) >>= fun j3 =>
 idx [(ByteArray.mk #[43]), (ByteArray.mk #[45]), (ByteArray.mk #[42]), (ByteArray.mk #[47]), (ByteArray.mk #[37])] (IntKind.i64.wrap (a1.Kind - 4)) >>= fun v10 =>
 z07 (z01.mk j3.2.2.2.2 j3.1 j3.2.1 j3.2.2.1 j3.2.2.2.1) [v10] >>= fun v11 =>
 ze2 v5.Kind >>= fun v12 =>
 if v12 then ((z1y n) v11 v5 true >>= fun v13 =>
 some v13)
 else (ze2 a1.Kind >>= fun v14 =>
 if (!v14) then (zd4 v5.Kind >>= fun v15 =>
 (z1y n) v11 v5 v15 >>= fun v16 =>
 some v16)
 else ((z1y n) v11 v5 false >>= fun v17 =>
 some v17))))
 else (z82 a0 a1 >>= fun v18 =>
 some v18))))
noncomputable def z0r : Nat → z01 → z04 → Option z01
  | 0, _, _ => none
  | n + 1, a0, a1011 => ((if a0.f_deep then (some true)
 else (some (decide ((IntKind.i64.wrap (a0.f_parens + 1)) > 24))) : Option Bool) >>= fun j1 =>
 (z2x n) (z01.mk a0.f_out a0.f_form j1 a0.f_blocks (IntKind.i64.wrap (a0.f_parens + 1))) a1011 >>= fun v1 =>
 some (z01.mk v1.f_out v1.f_form v1.f_deep v1.f_blocks (IntKind.i64.wrap (v1.f_parens - 1))))
noncomputable def z1y : Nat → z01 → z04 → Bool → Option z01
  | 0, _, _, _ => none
  | n + 1, a0, a1, a2 => if (!a2) then ((z1w n) a0 a1 >>= fun v1 =>
 some v1)
 else (z07 a0 [(ByteArray.mk #[40])] >>= fun v2 =>
 (z0u n) v2 a1 >>= fun v3 =>
 z07 v3 [(ByteArray.mk #[41])] >>= fun v4 =>
 some v4)
noncomputable def z2x : Nat → z01 → z04 → Option z01
  | 0, _, _ => none
  | n + 1, a0, a1 => idx a1.Kids 0 >>= fun v1 =>
 zd4 v1.Kind >>= fun v2 =>
 (z1y n) a0 v1 v2 >>= fun v3 =>
 some v3
noncomputable def z0u : Nat → z01 → z04 → Option z01
  | 0, _, _ => none
  | n + 1, a0, a1011 => ((if a0.f_deep then (some true)
 else (some (decide ((IntKind.i64.wrap (a0.f_parens + 1)) > 24))) : Option Bool) >>= fun j1 =>
 (z34 n) (z01.mk a0.f_out a0.f_form j1 a0.f_blocks (IntKind.i64.wrap (a0.f_parens + 1))) a1011 >>= fun v1 =>
 some (z01.mk v1.f_out v1.f_form v1.f_deep v1.f_blocks (IntKind.i64.wrap (v1.f_parens - 1))))
noncomputable def z34 : Nat → z01 → z04 → Option z01
  | 0, _, _ => none
  | n + 1, a0, a1 => (z1w n) a0 a1 >>= fun v1 =>
 some v1
end

noncomputable def z6i (a0 : z01) (a1 : z04) : Option z01 := unf fun n => z1w n a0 a1

noncomputable def z6j (a0 : z01) (a1 : z31) : Option z01 :=
 z07 a0 [(ByteArray.mk #[40])] >>= fun v1 =>
 z6i v1 a1.L >>= fun v2 =>
 ((if (decide (a1.Op < 1)) then (some true)
 else (some (decide (a1.Op > 6))) : Option Bool) >>= fun j1 =>
 if j1 then (z2m v2 false >>= fun v3 =>
 z6i v3 a1.R >>= fun v4 =>
 z07 v4 [(ByteArray.mk #[41])] >>= fun v5 =>
 some v5)
 else (idx [(ByteArray.mk #[61, 61]), (ByteArray.mk #[33, 61]), (ByteArray.mk #[60]), (ByteArray.mk #[60, 61]), (ByteArray.mk #[62]), (ByteArray.mk #[62, 61])] (IntKind.i64.wrap (a1.Op - 1)) >>= fun v6 =>
 z07 v2 [v6] >>= fun v7 =>
 z6i v7 a1.R >>= fun v8 =>
 z07 v8 [(ByteArray.mk #[41])] >>= fun v9 =>
 some v9))

def z8h (r : z01) : List XV := []

def z8i (r : z01) : z0s := [oB 135 [.row 1, .pv (.bool r.f_form), .pv (.bool r.f_deep), .pv (.int .i64 r.f_blocks), .pv (.int .i64 r.f_parens)], oR true 9 1 (List.map z0v r.f_out)]

noncomputable def z58 (F_ast_writer_stmts : z01 → (List z03) → Option z01) (F_ast_writer_stmt : z01 → z03 → Option z01) (F_ast_writer_block : z01 → (List z03) → Option z01) (F_ast_writer_arms : z01 → (List z0m) → Option z01) (a1 : (List z03)) (x1 : (Int × Bool × Bool × Int × Int × (List ByteArray))) : Option (Sum (Int × Bool × Bool × Int × Int × (List ByteArray)) (Sum z01 (Bool × Bool × Int × Int × (List ByteArray)))) :=
 if (decide (x1.1 < (a1.length : Int))) then (idx a1 x1.1 >>= fun v1 =>
 F_ast_writer_stmt (z01.mk x1.2.2.2.2.2 x1.2.1 x1.2.2.1 x1.2.2.2.1 x1.2.2.2.2.1) v1 >>= fun v2 =>
 some (.inl ((IntKind.i64.wrap (x1.1 + 1)), v2.f_form, v2.f_deep, v2.f_blocks, v2.f_parens, v2.f_out)))
 else (some (.inr (.inr (x1.2.1, x1.2.2.1, x1.2.2.2.1, x1.2.2.2.2.1, x1.2.2.2.2.2))))

def z49 (r : z01) : List XV := []

def z4a (r : z01) : z0s := [oB 135 [.row 1, .pv (.bool r.f_form), .pv (.bool r.f_deep), .pv (.int .i64 r.f_blocks), .pv (.int .i64 r.f_parens)], oR true 9 1 (List.map z0v r.f_out)]

noncomputable def zgo (r : z01) : Tg := .r false Tryz.f89.results.toList 2 (z49 r) (z4a r)

def z5u (r : z01) : List XV := []

def z5v (r : z01) : z0s := [oB 135 [.row 1, .pv (.bool r.f_form), .pv (.bool r.f_deep), .pv (.int .i64 r.f_blocks), .pv (.int .i64 r.f_parens)], oR true 9 1 (List.map z0v r.f_out)]

def z4b (r : z01) : List XV := []

def z4c (r : z01) : z0s := [oB 135 [.row 1, .pv (.bool r.f_form), .pv (.bool r.f_deep), .pv (.int .i64 r.f_blocks), .pv (.int .i64 r.f_parens)], oR true 9 1 (List.map z0v r.f_out)]

noncomputable def z5i (F_ast_writer_stmts : z01 → (List z03) → Option z01) (F_ast_writer_stmt : z01 → z03 → Option z01) (F_ast_writer_block : z01 → (List z03) → Option z01) (F_ast_writer_arms : z01 → (List z0m) → Option z01) (a1 : (List z0m)) (x1 : (Int × Bool × Bool × Int × Int × (List ByteArray))) : Option (Sum (Int × Bool × Bool × Int × Int × (List ByteArray)) (Sum z01 (Bool × Bool × Int × Int × (List ByteArray)))) :=
 if (decide (x1.1 < (a1.length : Int))) then (idx a1 x1.1 >>= fun v3 =>
 z18 (z01.mk x1.2.2.2.2.2 x1.2.1 x1.2.2.1 x1.2.2.2.1 x1.2.2.2.2.1) v3.Tag >>= fun v4 =>
 z07 v4 [(ByteArray.mk #[40])] >>= fun v5 =>
 z18 v5 v3.Var >>= fun v6 =>
 z07 v6 [(ByteArray.mk #[41])] >>= fun v7 =>
 F_ast_writer_block v7 v3.Body >>= fun v8 =>
 some (.inl ((IntKind.i64.wrap (x1.1 + 1)), v8.f_form, v8.f_deep, v8.f_blocks, v8.f_parens, v8.f_out)))
 else (some (.inr (.inr (x1.2.1, x1.2.2.1, x1.2.2.2.1, x1.2.2.2.2.1, x1.2.2.2.2.2))))

def z5b (r : z01) : List XV := []

def z5c (r : z01) : z0s := [oB 135 [.row 1, .pv (.bool r.f_form), .pv (.bool r.f_deep), .pv (.int .i64 r.f_blocks), .pv (.int .i64 r.f_parens)], oR true 9 1 (List.map z0v r.f_out)]

noncomputable def zhl (r : z01) : Tg := .r false Tryz.f128.results.toList 2 (z5b r) (z5c r)

mutual
noncomputable def z1x : Nat → z01 → (List z03) → Option z01
  | 0, _, _ => none
  | n + 1, a0, a1 => iter (z58 (z1x n) (z27 n) (z1l n) (z2l n) a1) (0, a0.f_form, a0.f_deep, a0.f_blocks, a0.f_parens, a0.f_out) >>= Sum.elim (fun _ => none) (fun j1 =>
 some (z01.mk j1.2.2.2.2 j1.1 j1.2.1 j1.2.2.1 j1.2.2.2.1))
noncomputable def z27 : Nat → z01 → z03 → Option z01
  | 0, _, _ => none
  | n + 1, a0, a1 => if (a1.Kind == 1) then (z18 a0 a1.Name >>= fun v1 =>
 z07 v1 [(ByteArray.mk #[61])] >>= fun v2 =>
 z6i v2 a1.E >>= fun v3 =>
 z07 v3 [(ByteArray.mk #[59])] >>= fun v4 =>
 some v4)
 else (if (a1.Kind == 2) then (z07 a0 [(ByteArray.mk #[105, 102])] >>= fun v5 =>
 z6j v5 a1.C >>= fun v6 =>
 (z1l n) v6 a1.Body >>= fun v7 =>
 if (decide ((a1.Else.length : Int) > 0)) then (z07 v7 [(ByteArray.mk #[101, 108, 115, 101])] >>= fun v8 =>
 (z1l n) v8 a1.Else >>= fun v9 =>
 some v9)
 else (some v7))
 else (if (a1.Kind == 3) then (z07 a0 [(ByteArray.mk #[119, 104, 105, 108, 101])] >>= fun v10 =>
 z6j v10 a1.C >>= fun v11 =>
 (z1l n) v11 a1.Body >>= fun v12 =>
 some v12)
 else (if (a1.Kind == 4) then (z07 a0 [(ByteArray.mk #[115, 101, 110, 100])] >>= fun v13 =>
 z18 v13 a1.Name >>= fun v14 =>
 z07 v14 [(ByteArray.mk #[46])] >>= fun v15 =>
 z18 v15 a1.Tag >>= fun v16 =>
 z07 v16 [(ByteArray.mk #[40])] >>= fun v17 =>
 z6i v17 a1.E >>= fun v18 =>
 z07 v18 [(ByteArray.mk #[41]), (ByteArray.mk #[59])] >>= fun v19 =>
 some v19)
 else (if (a1.Kind == 5) then (z07 a0 [(ByteArray.mk #[114, 101, 99, 118])] >>= fun v20 =>
 z18 v20 a1.Name >>= fun v21 =>
 (z2l n) v21 a1.Arms >>= fun v22 =>
 some v22)
 else (if (a1.Kind == 6) then (z07 a0 [(ByteArray.mk #[97, 115, 115, 101, 114, 116])] >>= fun v23 =>
 z6j v23 a1.C >>= fun v24 =>
 z07 v24 [(ByteArray.mk #[59])] >>= fun v25 =>
 some v25)
 else (if (a1.Kind == 7) then (z07 a0 [(ByteArray.mk #[105, 110, 112, 117, 116])] >>= fun v26 =>
 z18 v26 a1.Name >>= fun v27 =>
 z07 v27 [(ByteArray.mk #[59])] >>= fun v28 =>
 some v28)
 else (z2m a0 false >>= fun v29 =>
 some v29)))))))
noncomputable def z1l : Nat → z01 → (List z03) → Option z01
  | 0, _, _ => none
  | n + 1, a0, a1 => z07 a0 [(ByteArray.mk #[123])] >>= fun v1 =>
 ((if v1.f_deep then (some true)
 else (some (decide ((IntKind.i64.wrap (v1.f_blocks + 1)) > 24))) : Option Bool) >>= fun j1 =>
 (z1x n) (z01.mk v1.f_out v1.f_form j1 (IntKind.i64.wrap (v1.f_blocks + 1)) v1.f_parens) a1 >>= fun v2 =>
 z07 (z01.mk v2.f_out v2.f_form v2.f_deep (IntKind.i64.wrap (v2.f_blocks - 1)) v2.f_parens) [(ByteArray.mk #[125])] >>= fun v3 =>
 some v3)
noncomputable def z2l : Nat → z01 → (List z0m) → Option z01
  | 0, _, _ => none
  | n + 1, a0, a1 => z2m a0 (decide ((a1.length : Int) > 0)) >>= fun v1 =>
 z07 v1 [(ByteArray.mk #[123])] >>= fun v2 =>
 iter (z5i (z1x n) (z27 n) (z1l n) (z2l n) a1) (0, v2.f_form, v2.f_deep, v2.f_blocks, v2.f_parens, v2.f_out) >>= Sum.elim (fun _ => none) (fun j1 =>
 z07 (z01.mk j1.2.2.2.2 j1.1 j1.2.1 j1.2.2.1 j1.2.2.2.1) [(ByteArray.mk #[125])] >>= fun v9 =>
 some v9)
end

noncomputable def z97 (a0 : z01) (a1 : (List z03)) : Option z01 := unf fun n => z1x n a0 a1

noncomputable def z63 (a1 : z2h) (x1 : (Int × Bool × Bool × Int × Int × (List ByteArray))) : Option (Sum (Int × Bool × Bool × Int × Int × (List ByteArray)) (Sum z01 (Bool × Bool × Int × Int × (List ByteArray)))) :=
 if (decide (x1.1 < (a1.Vars.length : Int))) then (idx a1.Vars x1.1 >>= fun v4 =>
 z07 (z01.mk x1.2.2.2.2.2 x1.2.1 x1.2.2.1 x1.2.2.2.1 x1.2.2.2.2.1) [(ByteArray.mk #[118, 97, 114])] >>= fun v5 =>
 z18 v5 v4 >>= fun v6 =>
 z07 v6 [(ByteArray.mk #[59])] >>= fun v7 =>
 some (.inl ((IntKind.i64.wrap (x1.1 + 1)), v7.f_form, v7.f_deep, v7.f_blocks, v7.f_parens, v7.f_out)))
 else (some (.inr (.inr (x1.2.1, x1.2.2.1, x1.2.2.2.1, x1.2.2.2.2.1, x1.2.2.2.2.2))))

noncomputable def z79 (a0 : z01) (a1 : z2h) : Option z01 :=
 z07 a0 [(ByteArray.mk #[112, 114, 111, 99])] >>= fun v1 =>
 z18 v1 a1.Name >>= fun v2 =>
 z07 v2 [(ByteArray.mk #[123])] >>= fun v3 =>
 iter (z63 a1) (0, v3.f_form, v3.f_deep, v3.f_blocks, v3.f_parens, v3.f_out) >>= Sum.elim (fun _ => none) (fun j1 =>
 z97 (z01.mk j1.2.2.2.2 j1.1 j1.2.1 j1.2.2.1 j1.2.2.2.1) a1.Body >>= fun v8 =>
 z07 v8 [(ByteArray.mk #[125])] >>= fun v9 =>
 some v9)

def zae (r : z01) : List XV := []

def zaf (r : z01) : z0s := [oB 135 [.row 1, .pv (.bool r.f_form), .pv (.bool r.f_deep), .pv (.int .i64 r.f_blocks), .pv (.int .i64 r.f_parens)], oR true 9 1 (List.map z0v r.f_out)]

noncomputable def zhm (r : z01) : Tg := .r false Tryz.f54.results.toList 2 (zae r) (zaf r)

noncomputable def z83 (a0 : z16) (x1 : (Int × Bool × Bool × Int × Int × (List ByteArray))) : Option (Sum (Int × Bool × Bool × Int × Int × (List ByteArray)) (Sum ((List ByteArray) × Int) (Bool × Bool × Int × Int × (List ByteArray)))) :=
 if (decide (x1.1 < (a0.Chans.length : Int))) then (idx a0.Chans x1.1 >>= fun v1 =>
 z62 (z01.mk x1.2.2.2.2.2 x1.2.1 x1.2.2.1 x1.2.2.2.1 x1.2.2.2.2.1) v1 >>= fun v2 =>
 some (.inl ((IntKind.i64.wrap (x1.1 + 1)), v2.f_form, v2.f_deep, v2.f_blocks, v2.f_parens, v2.f_out)))
 else (some (.inr (.inr (x1.2.1, x1.2.2.1, x1.2.2.2.1, x1.2.2.2.2.1, x1.2.2.2.2.2))))

noncomputable def z84 (a0 : z16) (x2 : (Int × Bool × Bool × Int × Int × (List ByteArray))) : Option (Sum (Int × Bool × Bool × Int × Int × (List ByteArray)) (Sum ((List ByteArray) × Int) (Bool × Bool × Int × Int × (List ByteArray)))) :=
 if (decide (x2.1 < (a0.Rules.length : Int))) then (idx a0.Rules x2.1 >>= fun v3 =>
 z78 (z01.mk x2.2.2.2.2.2 x2.2.1 x2.2.2.1 x2.2.2.2.1 x2.2.2.2.2.1) v3 >>= fun v4 =>
 some (.inl ((IntKind.i64.wrap (x2.1 + 1)), v4.f_form, v4.f_deep, v4.f_blocks, v4.f_parens, v4.f_out)))
 else (some (.inr (.inr (x2.2.1, x2.2.2.1, x2.2.2.2.1, x2.2.2.2.2.1, x2.2.2.2.2.2))))

noncomputable def z86 (a0 : z16) (x3 : (Int × Bool × Bool × Int × Int × (List ByteArray))) : Option (Sum (Int × Bool × Bool × Int × Int × (List ByteArray)) (Sum ((List ByteArray) × Int) (Bool × Bool × Int × Int × (List ByteArray)))) :=
 if (decide (x3.1 < (a0.Procs.length : Int))) then (idx a0.Procs x3.1 >>= fun v5 =>
 z79 (z01.mk x3.2.2.2.2.2 x3.2.1 x3.2.2.1 x3.2.2.2.1 x3.2.2.2.2.1) v5 >>= fun v6 =>
 some (.inl ((IntKind.i64.wrap (x3.1 + 1)), v6.f_form, v6.f_deep, v6.f_blocks, v6.f_parens, v6.f_out)))
 else (some (.inr (.inr (x3.2.1, x3.2.2.1, x3.2.2.2.1, x3.2.2.2.2.1, x3.2.2.2.2.2))))

noncomputable def zcl (a0 : z16) : Option ((List ByteArray) × Int) :=
 iter (z83 a0) (0, false, false, 0, 0, []) >>= Sum.elim (fun _ => none) (fun j1 =>
 iter (z84 a0) (0, j1.1, j1.2.1, j1.2.2.1, j1.2.2.2.1, j1.2.2.2.2) >>= Sum.elim (fun _ => none) (fun j2 =>
 iter (z86 a0) (0, j2.1, j2.2.1, j2.2.2.1, j2.2.2.2.1, j2.2.2.2.2) >>= Sum.elim (fun _ => none) (fun j3 =>
 if j3.1 then (some ([], 5))
 else (if j3.2.1 then (some ([], 6))
 else (if (decide ((j3.2.2.2.2.length : Int) > 2000)) then (some ([], 4))
 else (some (j3.2.2.2.2, 0)))))))

def zd5 (r : ((List ByteArray) × Int)) : List XV := [xL (List.map z0v r.1), xI r.2]

def zja (r : ((List ByteArray) × Int)) : z0s := []

noncomputable def zfr (r : ((List ByteArray) × Int)) : Tg := .r false Tryz.f17.results.toList 0 (zd5 r) (zja r)

noncomputable def zgp (a0 : z16) : Option (ByteArray × Int) :=
 zcl a0 >>= fun q => if (z7v q.1).length ≤ 140737488355328 then some (zof q.1, q.2) else none

def zkf (r : (ByteArray × Int)) : List XV := [xS r.1, xI r.2]

noncomputable def z30 (a0 : z00) (a1 : ByteArray) : Option Bool :=
 if (a0.f_e == 0) then (if (decide ((a0.f_l.length : Int) > 0)) then (idx a0.f_l 0 >>= fun v1 =>
 if (decide (v1.Kind ≥ 3)) then (idx a0.f_l 0 >>= fun v2 =>
 some (v2.Text.toList == a1.toList))
 else (some false))
 else (some false))
 else (some false)

def z4s (r : Bool) : List XV := [xB r]

def z4t (a0 : z00) (r : Bool) : z0s := [oB 71 (bs (z02 a0))]

noncomputable def z0g (a0 : z00) (a1 : ByteArray) : Option (z00 × Bool) :=
 z30 a0 a1 >>= fun v1 =>
 if (!v1) then (some (a0, false))
 else (lsub a0.f_l 1 (a0.f_l.length : Int) >>= fun v2 =>
 some ((z00.mk v2 a0.f_end a0.f_e a0.f_at a0.f_deep a0.f_in), true))

def z2c (r : (z00 × Bool)) : List XV := [xB r.2]

def z2d (r : (z00 × Bool)) : z0s := [oB 71 (bs (z02 r.1))]

noncomputable def z5j (a0 : z00) (a1 : Int) : Option Bool :=
 if (a0.f_e == 0) then (if (decide ((a0.f_l.length : Int) > 0)) then (idx a0.f_l 0 >>= fun v1 =>
 some (v1.Kind == a1))
 else (some false))
 else (some false)

def z8j (r : Bool) : List XV := [xB r]

def z8k (a0 : z00) (r : Bool) : z0s := [oB 71 (bs (z02 a0))]

noncomputable def z29 (a0 : z00) (a1 : Int) : Option z00 :=
 if (a0.f_e != 0) then (some a0)
 else (if (decide ((a0.f_l.length : Int) > 0)) then (idx a0.f_l 0 >>= fun v1 =>
 some (z00.mk a0.f_l a0.f_end a1 v1.At a0.f_deep a0.f_in))
 else (some (z00.mk a0.f_l a0.f_end a1 a0.f_end a0.f_deep a0.f_in)))

def z4u (r : z00) : List XV := []

def z4v (r : z00) : z0s := [oB 71 (bs (z02 r))]

noncomputable def z5d (a0 : z00) (a1 : Int) : Option (z00 × z0e) :=
 z5j a0 a1 >>= fun v1 =>
 if (!v1) then (z29 a0 5 >>= fun v2 =>
 some (v2, (z0e.mk 0 (ByteArray.mk #[]) 0 0)))
 else (idx a0.f_l 0 >>= fun v3 =>
 lsub a0.f_l 1 (a0.f_l.length : Int) >>= fun v4 =>
 some ((z00.mk v4 a0.f_end a0.f_e a0.f_at a0.f_deep a0.f_in), v3))

def z9a (r : (z00 × z0e)) : List XV := [.agg (bs (z1c r.2))]

def z9b (r : (z00 × z0e)) : z0s := [oB 71 (bs (z02 r.1))]

noncomputable def z0f (a0 : z00) : Option (z00 × ByteArray) :=
 z5d a0 1 >>= fun v1 =>
 some (v1.1, v1.2.Text)

def z1s (r : (z00 × ByteArray)) : List XV := [xS r.2]

def z1t (r : (z00 × ByteArray)) : z0s := [oB 71 (bs (z02 r.1))]

noncomputable def z0l (a0 : (List ByteArray)) (x1 : (Int × (List z0e) × Int × Int × Int × Int × Int)) : Option (Sum (Int × (List z0e) × Int × Int × Int × Int × Int) (Sum (z00 × Int) ((List z0e) × Int × Int × Int × Int × Int))) :=
 if (decide (x1.1 < (a0.length : Int))) then (idx a0 x1.1 >>= fun v1 =>
 z0g (z00.mk x1.2.1 x1.2.2.1 x1.2.2.2.1 x1.2.2.2.2.1 x1.2.2.2.2.2.1 x1.2.2.2.2.2.2) v1 >>= fun v2 =>
 if v2.2 then (some (.inr (.inl (v2.1, x1.1))))
 else (some (.inl ((IntKind.i64.wrap (x1.1 + 1)), v2.1.f_l, v2.1.f_end, v2.1.f_e, v2.1.f_at, v2.1.f_deep, v2.1.f_in))))
 else (some (.inr (.inr (x1.2.1, x1.2.2.1, x1.2.2.2.1, x1.2.2.2.2.1, x1.2.2.2.2.2.1, x1.2.2.2.2.2.2))))

noncomputable def z26 (a0 : (List ByteArray)) (a1010 : z00) : Option (z00 × Int) :=
 iter (z0l a0) (0, a1010.f_l, a1010.f_end, a1010.f_e, a1010.f_at, a1010.f_deep, a1010.f_in) >>= Sum.elim (fun r => some r) (fun j1 =>
 some ((z00.mk j1.1 j1.2.1 j1.2.2.1 j1.2.2.2.1 j1.2.2.2.2.1 j1.2.2.2.2.2), (-1)))

def z3f (r : (z00 × Int)) : List XV := [xI r.2]

def z3g (r : (z00 × Int)) : z0s := [oB 71 (bs (z02 r.1))]

noncomputable def z6k (r : (z00 × Int)) : Tg := .r false Tryz.f97.results.toList 1 (z3f r) (z3g r)

noncomputable def z1o (a0 : z00) (a1 : (List ByteArray)) : Option (z00 × Int) :=
 z26 a1 a0 >>= fun v1 =>
 some (v1.1, v1.2)

def z69 (r : (z00 × Int)) : List XV := [xI r.2]

def z6a (r : (z00 × Int)) : z0s := [oB 71 (bs (z02 r.1))]

noncomputable def z1z (a0 : z00) : Option (z00 × Int) :=
 z5d a0 2 >>= fun v1 =>
 some (v1.1, v1.2.Num)

def z60 (r : (z00 × Int)) : List XV := [xI r.2]

def z61 (r : (z00 × Int)) : z0s := [oB 71 (bs (z02 r.1))]

noncomputable def z05 (a0 : z00) (a1 : ByteArray) : Option z00 :=
 z0g a0 a1 >>= fun v1 =>
 if (!v1.2) then (z29 v1.1 5 >>= fun v2 =>
 some v2)
 else (some v1.1)

def z0n (r : z00) : List XV := []

def z0o (r : z00) : z0s := [oB 71 (bs (z02 r))]

noncomputable def z24 (x1 : ((List z0e) × Int × Int × Int × Int × Int × (List ByteArray))) : Option (Sum ((List z0e) × Int × Int × Int × Int × Int × (List ByteArray)) (Sum (z00 × z23) ((List z0e) × Int × Int × Int × Int × Int × (List ByteArray)))) :=
 z0g (z00.mk x1.1 x1.2.1 x1.2.2.1 x1.2.2.2.1 x1.2.2.2.2.1 x1.2.2.2.2.2.1) (ByteArray.mk #[44]) >>= fun v12 =>
 if v12.2 then (z0f v12.1 >>= fun v13 =>
 app 16 x1.2.2.2.2.2.2 [v13.2] >>= fun v14 =>
 some (.inl (v13.1.f_l, v13.1.f_end, v13.1.f_e, v13.1.f_at, v13.1.f_deep, v13.1.f_in, v14)))
 else (some (.inr (.inr (v12.1.f_l, v12.1.f_end, v12.1.f_e, v12.1.f_at, v12.1.f_deep, v12.1.f_in, x1.2.2.2.2.2.2))))

noncomputable def z5l (a0 : z00) : Option (z00 × z23) :=
 z0f a0 >>= fun v1 =>
 z1o v1.1 [(ByteArray.mk #[98, 108, 111, 99, 107]), (ByteArray.mk #[100, 114, 111, 112]), (ByteArray.mk #[108, 111, 115, 115, 121])] >>= fun v2 =>
 if (decide (v2.2 < 0)) then (z29 v2.1 5 >>= fun v3 =>
 some (v3, (z23.mk v1.2 v2.2 0 (ByteArray.mk #[]) (ByteArray.mk #[]) [])))
 else (z1z v2.1 >>= fun v4 =>
 z05 v4.1 (ByteArray.mk #[102, 114, 111, 109]) >>= fun v5 =>
 z0f v5 >>= fun v6 =>
 z05 v6.1 (ByteArray.mk #[116, 111]) >>= fun v7 =>
 z0f v7 >>= fun v8 =>
 z05 v8.1 (ByteArray.mk #[123]) >>= fun v9 =>
 z0f v9 >>= fun v10 =>
 app 16 [] [v10.2] >>= fun v11 =>
 iter (z24) (v10.1.f_l, v10.1.f_end, v10.1.f_e, v10.1.f_at, v10.1.f_deep, v10.1.f_in, v11) >>= Sum.elim (fun _ => none) (fun j1 =>
 z05 (z00.mk j1.1 j1.2.1 j1.2.2.1 j1.2.2.2.1 j1.2.2.2.2.1 j1.2.2.2.2.2.1) (ByteArray.mk #[125]) >>= fun v15 =>
 z05 v15 (ByteArray.mk #[59]) >>= fun v16 =>
 some (v16, (z23.mk v1.2 v2.2 v4.2 v6.2 v8.2 j1.2.2.2.2.2.2))))

def z7q (r : (z00 × z23)) : List XV := [.agg (bs (z1u r.2))]

def z7r (r : (z00 × z23)) : z0s := [oB 71 (bs (z02 r.1))]

noncomputable def zdi (r : (z00 × z23)) : Tg := .r false Tryz.f21.results.toList 1 (z7q r) (z7r r)

noncomputable def z39 (x1 : ((List z0e) × Int × Int × Int × Int × Int × (List z3s))) : Option (Sum ((List z0e) × Int × Int × Int × Int × Int × (List z3s)) (Sum (z00 × z2g) ((List z0e) × Int × Int × Int × Int × Int × (List z3s)))) :=
 ((if (x1.2.2.1 == 0) then (z30 (z00.mk x1.1 x1.2.1 x1.2.2.1 x1.2.2.2.1 x1.2.2.2.2.1 x1.2.2.2.2.2.1) (ByteArray.mk #[125]) >>= fun v3 =>
 some (!v3))
 else (some false) : Option Bool) >>= fun j2 =>
 if j2 then (z1z (z00.mk x1.1 x1.2.1 x1.2.2.1 x1.2.2.2.1 x1.2.2.2.2.1 x1.2.2.2.2.2.1) >>= fun v4 =>
 z0f v4.1 >>= fun v5 =>
 z1z v5.1 >>= fun v6 =>
 z05 v6.1 (ByteArray.mk #[59]) >>= fun v7 =>
 app 32 x1.2.2.2.2.2.2 [(z3s.mk v4.2 v5.2 v6.2)] >>= fun v8 =>
 some (.inl (v7.f_l, v7.f_end, v7.f_e, v7.f_at, v7.f_deep, v7.f_in, v8)))
 else (some (.inr (.inr (x1.1, x1.2.1, x1.2.2.1, x1.2.2.2.1, x1.2.2.2.2.1, x1.2.2.2.2.2.1, x1.2.2.2.2.2.2)))))

noncomputable def z6f (a0 : z00) : Option (z00 × z2g) :=
 z0f a0 >>= fun v1 =>
 z05 v1.1 (ByteArray.mk #[123]) >>= fun v2 =>
 iter (z39) (v2.f_l, v2.f_end, v2.f_e, v2.f_at, v2.f_deep, v2.f_in, []) >>= Sum.elim (fun _ => none) (fun j1 =>
 z05 (z00.mk j1.1 j1.2.1 j1.2.2.1 j1.2.2.2.1 j1.2.2.2.2.1 j1.2.2.2.2.2.1) (ByteArray.mk #[125]) >>= fun v9 =>
 some (v9, (z2g.mk v1.2 j1.2.2.2.2.2.2)))

def z9c (r : (z00 × z2g)) : List XV := [.agg (bs (z28 r.2))]

def z9d (r : (z00 × z2g)) : z0s := [oB 71 (bs (z02 r.1))]

noncomputable def zfs (r : (z00 × z2g)) : Tg := .r false Tryz.f22.results.toList 1 (z9c r) (z9d r)

noncomputable def z64 (a0 : z00) : Option (z00 × Bool) :=
 if (a0.f_deep == 24) then (z29 a0 6 >>= fun v1 =>
 some (v1, false))
 else (some ((z00.mk a0.f_l a0.f_end a0.f_e a0.f_at (IntKind.i64.wrap (a0.f_deep + 1)) a0.f_in), true))

def z8r (r : (z00 × Bool)) : List XV := [xB r.2]

def z8s (r : (z00 × Bool)) : z0s := [oB 71 (bs (z02 r.1))]

def z2e (r : (z00 × z04)) : List XV := [.agg (bs (z0d r.2))]

def z2f (r : (z00 × z04)) : z0s := [oB 71 (bs (z02 r.1))]

noncomputable def z2k (F_parse_reader_expr : z00 → Option (z00 × z04)) (F_parse_reader_chain_parse_reader_term : z00 → (List ByteArray) → Int → Option (z00 × z04)) (F_parse_reader_term : z00 → Option (z00 × z04)) (F_parse_reader_chain_parse_reader_factor : z00 → (List ByteArray) → Int → Option (z00 × z04)) (F_parse_reader_factor : z00 → Option (z00 × z04)) (F_parse_reader_negated : z00 → Option (z00 × z04)) (F_parse_reader_parens : z00 → Option (z00 × z04)) (a2 : (List ByteArray)) (a3 : Int) (x1 : ((List z0e) × Int × Int × Int × Int × Int × Int × Int × ByteArray × (List z04))) : Option (Sum ((List z0e) × Int × Int × Int × Int × Int × Int × Int × ByteArray × (List z04)) (Sum (z00 × z04) ((List z0e) × Int × Int × Int × Int × Int × Int × Int × ByteArray × (List z04)))) :=
 if (x1.2.2.1 == 0) then (z1o (z00.mk x1.1 x1.2.1 x1.2.2.1 x1.2.2.2.1 x1.2.2.2.2.1 x1.2.2.2.2.2.1) a2 >>= fun v2 =>
 if (decide (v2.2 < 0)) then (some (.inr (.inr (v2.1.f_l, v2.1.f_end, v2.1.f_e, v2.1.f_at, v2.1.f_deep, v2.1.f_in, x1.2.2.2.2.2.2.1, x1.2.2.2.2.2.2.2.1, x1.2.2.2.2.2.2.2.2.1, x1.2.2.2.2.2.2.2.2.2))))
 else (F_parse_reader_term v2.1 >>= fun v3 =>
 some (.inl (v3.1.f_l, v3.1.f_end, v3.1.f_e, v3.1.f_at, v3.1.f_deep, v3.1.f_in, (IntKind.i64.wrap (a3 + v2.2)), 0, (ByteArray.mk #[]), [(z04.mk x1.2.2.2.2.2.2.1 x1.2.2.2.2.2.2.2.1 x1.2.2.2.2.2.2.2.2.1 x1.2.2.2.2.2.2.2.2.2), v3.2]))))
 else (some (.inr (.inr (x1.1, x1.2.1, x1.2.2.1, x1.2.2.2.1, x1.2.2.2.2.1, x1.2.2.2.2.2.1, x1.2.2.2.2.2.2.1, x1.2.2.2.2.2.2.2.1, x1.2.2.2.2.2.2.2.2.1, x1.2.2.2.2.2.2.2.2.2))))

def z11 (r : (z00 × z04)) : List XV := [.agg (bs (z0d r.2))]

def z12 (r : (z00 × z04)) : z0s := [oB 71 (bs (z02 r.1))]

noncomputable def z8l (r : (z00 × z04)) : Tg := .r false Tryz.f160.results.toList 1 (z11 r) (z12 r)

def z3h (r : (z00 × z04)) : List XV := [.agg (bs (z0d r.2))]

def z3i (r : (z00 × z04)) : z0s := [oB 71 (bs (z02 r.1))]

noncomputable def z2a (F_parse_reader_expr : z00 → Option (z00 × z04)) (F_parse_reader_chain_parse_reader_term : z00 → (List ByteArray) → Int → Option (z00 × z04)) (F_parse_reader_term : z00 → Option (z00 × z04)) (F_parse_reader_chain_parse_reader_factor : z00 → (List ByteArray) → Int → Option (z00 × z04)) (F_parse_reader_factor : z00 → Option (z00 × z04)) (F_parse_reader_negated : z00 → Option (z00 × z04)) (F_parse_reader_parens : z00 → Option (z00 × z04)) (a2 : (List ByteArray)) (a3 : Int) (x1 : ((List z0e) × Int × Int × Int × Int × Int × Int × Int × ByteArray × (List z04))) : Option (Sum ((List z0e) × Int × Int × Int × Int × Int × Int × Int × ByteArray × (List z04)) (Sum (z00 × z04) ((List z0e) × Int × Int × Int × Int × Int × Int × Int × ByteArray × (List z04)))) :=
 if (x1.2.2.1 == 0) then (z1o (z00.mk x1.1 x1.2.1 x1.2.2.1 x1.2.2.2.1 x1.2.2.2.2.1 x1.2.2.2.2.2.1) a2 >>= fun v2 =>
 if (decide (v2.2 < 0)) then (some (.inr (.inr (v2.1.f_l, v2.1.f_end, v2.1.f_e, v2.1.f_at, v2.1.f_deep, v2.1.f_in, x1.2.2.2.2.2.2.1, x1.2.2.2.2.2.2.2.1, x1.2.2.2.2.2.2.2.2.1, x1.2.2.2.2.2.2.2.2.2))))
 else (F_parse_reader_factor v2.1 >>= fun v3 =>
 some (.inl (v3.1.f_l, v3.1.f_end, v3.1.f_e, v3.1.f_at, v3.1.f_deep, v3.1.f_in, (IntKind.i64.wrap (a3 + v2.2)), 0, (ByteArray.mk #[]), [(z04.mk x1.2.2.2.2.2.2.1 x1.2.2.2.2.2.2.2.1 x1.2.2.2.2.2.2.2.2.1 x1.2.2.2.2.2.2.2.2.2), v3.2]))))
 else (some (.inr (.inr (x1.1, x1.2.1, x1.2.2.1, x1.2.2.2.1, x1.2.2.2.2.1, x1.2.2.2.2.2.1, x1.2.2.2.2.2.2.1, x1.2.2.2.2.2.2.2.1, x1.2.2.2.2.2.2.2.2.1, x1.2.2.2.2.2.2.2.2.2))))

def z0x (r : (z00 × z04)) : List XV := [.agg (bs (z0d r.2))]

def z0y (r : (z00 × z04)) : z0s := [oB 71 (bs (z02 r.1))]

noncomputable def z7w (r : (z00 × z04)) : Tg := .r false Tryz.f160.results.toList 1 (z0x r) (z0y r)

def z2v (r : (z00 × z04)) : List XV := [.agg (bs (z0d r.2))]

def z2w (r : (z00 × z04)) : z0s := [oB 71 (bs (z02 r.1))]

def z36 (r : (z00 × z04)) : List XV := [.agg (bs (z0d r.2))]

def z38 (r : (z00 × z04)) : z0s := [oB 71 (bs (z02 r.1))]

def z3b (r : (z00 × z04)) : List XV := [.agg (bs (z0d r.2))]

def z3c (r : (z00 × z04)) : z0s := [oB 71 (bs (z02 r.1))]

mutual
noncomputable def z1a : Nat → z00 → Option (z00 × z04)
  | 0, _ => none
  | n + 1, a0 => (z09 n) a0 [(ByteArray.mk #[43]), (ByteArray.mk #[45])] 4 >>= fun v1 =>
 some (v1.1, v1.2)
noncomputable def z09 : Nat → z00 → (List ByteArray) → Int → Option (z00 × z04)
  | 0, _, _, _ => none
  | n + 1, a0, a2, a3 => (z15 n) a0 >>= fun v1 =>
 iter (z2k (z1a n) (z09 n) (z15 n) (z08 n) (z0h n) (z17 n) (z1b n) a2 a3) (v1.1.f_l, v1.1.f_end, v1.1.f_e, v1.1.f_at, v1.1.f_deep, v1.1.f_in, v1.2.Kind, v1.2.Num, v1.2.Name, v1.2.Kids) >>= Sum.elim (fun _ => none) (fun j1 =>
 some ((z00.mk j1.1 j1.2.1 j1.2.2.1 j1.2.2.2.1 j1.2.2.2.2.1 j1.2.2.2.2.2.1), (z04.mk j1.2.2.2.2.2.2.1 j1.2.2.2.2.2.2.2.1 j1.2.2.2.2.2.2.2.2.1 j1.2.2.2.2.2.2.2.2.2)))
noncomputable def z15 : Nat → z00 → Option (z00 × z04)
  | 0, _ => none
  | n + 1, a0 => (z08 n) a0 [(ByteArray.mk #[42]), (ByteArray.mk #[47]), (ByteArray.mk #[37])] 6 >>= fun v1 =>
 some (v1.1, v1.2)
noncomputable def z08 : Nat → z00 → (List ByteArray) → Int → Option (z00 × z04)
  | 0, _, _, _ => none
  | n + 1, a0, a2, a3 => (z0h n) a0 >>= fun v1 =>
 iter (z2a (z1a n) (z09 n) (z15 n) (z08 n) (z0h n) (z17 n) (z1b n) a2 a3) (v1.1.f_l, v1.1.f_end, v1.1.f_e, v1.1.f_at, v1.1.f_deep, v1.1.f_in, v1.2.Kind, v1.2.Num, v1.2.Name, v1.2.Kids) >>= Sum.elim (fun _ => none) (fun j1 =>
 some ((z00.mk j1.1 j1.2.1 j1.2.2.1 j1.2.2.2.1 j1.2.2.2.2.1 j1.2.2.2.2.2.1), (z04.mk j1.2.2.2.2.2.2.1 j1.2.2.2.2.2.2.2.1 j1.2.2.2.2.2.2.2.2.1 j1.2.2.2.2.2.2.2.2.2)))
noncomputable def z0h : Nat → z00 → Option (z00 × z04)
  | 0, _ => none
  | n + 1, a0 => z30 a0 (ByteArray.mk #[45]) >>= fun v1 =>
 if v1 then ((z17 n) a0 >>= fun v2 =>
 some (v2.1, v2.2))
 else (z30 a0 (ByteArray.mk #[40]) >>= fun v3 =>
 if v3 then ((z1b n) a0 >>= fun v4 =>
 some (v4.1, v4.2))
 else (z5j a0 2 >>= fun v5 =>
 if v5 then (z1z a0 >>= fun v6 =>
 some (v6.1, (z04.mk 1 v6.2 (ByteArray.mk #[]) [])))
 else (z0f a0 >>= fun v7 =>
 some (v7.1, (z04.mk 2 0 v7.2 [])))))
noncomputable def z17 : Nat → z00 → Option (z00 × z04)
  | 0, _ => none
  | n + 1, a0 => z64 a0 >>= fun v1 =>
 if (!v1.2) then (some (v1.1, (z04.mk 0 0 (ByteArray.mk #[]) [])))
 else (z05 v1.1 (ByteArray.mk #[45]) >>= fun v2 =>
 (z0h n) v2 >>= fun v3 =>
 some ((z00.mk v3.1.f_l v3.1.f_end v3.1.f_e v3.1.f_at (IntKind.i64.wrap (v3.1.f_deep - 1)) v3.1.f_in), (z04.mk 3 0 (ByteArray.mk #[]) [v3.2])))
noncomputable def z1b : Nat → z00 → Option (z00 × z04)
  | 0, _ => none
  | n + 1, a0 => z64 a0 >>= fun v1 =>
 if (!v1.2) then (some (v1.1, (z04.mk 0 0 (ByteArray.mk #[]) [])))
 else (z05 v1.1 (ByteArray.mk #[40]) >>= fun v2 =>
 (z1a n) v2 >>= fun v3 =>
 z05 v3.1 (ByteArray.mk #[41]) >>= fun v4 =>
 some ((z00.mk v4.f_l v4.f_end v4.f_e v4.f_at (IntKind.i64.wrap (v4.f_deep - 1)) v4.f_in), v3.2))
end

noncomputable def z4y (a0 : z00) : Option (z00 × z04) := unf fun n => z1a n a0

noncomputable def z6g (a0 : z00) : Option (z00 × z03) :=
 z0f a0 >>= fun v1 =>
 z05 v1.1 (ByteArray.mk #[46]) >>= fun v2 =>
 z0f v2 >>= fun v3 =>
 z05 v3.1 (ByteArray.mk #[40]) >>= fun v4 =>
 z4y v4 >>= fun v5 =>
 z05 v5.1 (ByteArray.mk #[41]) >>= fun v6 =>
 z05 v6 (ByteArray.mk #[59]) >>= fun v7 =>
 some (v7, (z03.mk 4 v1.2 v3.2 v5.2 (z31.mk 0 (z04.mk 0 0 (ByteArray.mk #[]) []) (z04.mk 0 0 (ByteArray.mk #[]) [])) [] [] []))

def zbq (r : (z00 × z03)) : List XV := [.agg (bs (z1q r.2))]

def zbr (r : (z00 × z03)) : z0s := [oB 71 (bs (z02 r.1))]

noncomputable def z4z (a0 : z00) : Option (z00 × z31) :=
 z05 a0 (ByteArray.mk #[40]) >>= fun v1 =>
 z4y v1 >>= fun v2 =>
 z1o v2.1 [(ByteArray.mk #[61, 61]), (ByteArray.mk #[33, 61]), (ByteArray.mk #[60]), (ByteArray.mk #[60, 61]), (ByteArray.mk #[62]), (ByteArray.mk #[62, 61])] >>= fun v3 =>
 if (decide (v3.2 < 0)) then (z29 v3.1 5 >>= fun v4 =>
 some (v4, (z31.mk 0 v2.2 (z04.mk 0 0 (ByteArray.mk #[]) []))))
 else (z4y v3.1 >>= fun v5 =>
 z05 v5.1 (ByteArray.mk #[41]) >>= fun v6 =>
 some (v6, (z31.mk (IntKind.i64.wrap (1 + v3.2)) v2.2 v5.2)))

def z7e (r : (z00 × z31)) : List XV := [.agg (bs (z9j r.2))]

def z7f (r : (z00 × z31)) : z0s := [oB 71 (bs (z02 r.1))]

noncomputable def z5w (a0 : z00) : Option (z00 × z03) :=
 z4z a0 >>= fun v1 =>
 z05 v1.1 (ByteArray.mk #[59]) >>= fun v2 =>
 some (v2, (z03.mk 6 (ByteArray.mk #[]) (ByteArray.mk #[]) (z04.mk 0 0 (ByteArray.mk #[]) []) v1.2 [] [] []))

def zar (r : (z00 × z03)) : List XV := [.agg (bs (z1q r.2))]

def zas (r : (z00 × z03)) : z0s := [oB 71 (bs (z02 r.1))]

noncomputable def z65 (a0 : z00) : Option (z00 × z03) :=
 z0f a0 >>= fun v1 =>
 z05 v1.1 (ByteArray.mk #[59]) >>= fun v2 =>
 some (v2, (z03.mk 7 v1.2 (ByteArray.mk #[]) (z04.mk 0 0 (ByteArray.mk #[]) []) (z31.mk 0 (z04.mk 0 0 (ByteArray.mk #[]) []) (z04.mk 0 0 (ByteArray.mk #[]) [])) [] [] []))

def zb3 (r : (z00 × z03)) : List XV := [.agg (bs (z1q r.2))]

def zb4 (r : (z00 × z03)) : z0s := [oB 71 (bs (z02 r.1))]

noncomputable def z5x (a0 : z00) : Option (z00 × z03) :=
 z0f a0 >>= fun v1 =>
 z05 v1.1 (ByteArray.mk #[61]) >>= fun v2 =>
 z4y v2 >>= fun v3 =>
 z05 v3.1 (ByteArray.mk #[59]) >>= fun v4 =>
 some (v4, (z03.mk 1 v1.2 (ByteArray.mk #[]) v3.2 (z31.mk 0 (z04.mk 0 0 (ByteArray.mk #[]) []) (z04.mk 0 0 (ByteArray.mk #[]) [])) [] [] []))

def zat (r : (z00 × z03)) : List XV := [.agg (bs (z1q r.2))]

def zau (r : (z00 × z03)) : z0s := [oB 71 (bs (z02 r.1))]

noncomputable def z6w (F_parse_reader_stmts : z00 → Option (z00 × (List z03))) (F_parse_reader_stmt : z00 → Option (z00 × z03 × Bool)) (F_parse_reader_conditional : z00 → Option (z00 × z03)) (F_parse_reader_loop : z00 → Option (z00 × z03)) (F_parse_reader_recv : z00 → Option (z00 × z03)) (F_parse_reader_block : z00 → Option (z00 × (List z03))) (F_parse_reader_arm : z00 → Option (z00 × z0m)) (x1 : ((List z0e) × Int × Int × Int × Int × Int × (List z03))) : Option (Sum ((List z0e) × Int × Int × Int × Int × Int × (List z03)) (Sum (z00 × (List z03)) Unit)) :=
 F_parse_reader_stmt (z00.mk x1.1 x1.2.1 x1.2.2.1 x1.2.2.2.1 x1.2.2.2.2.1 x1.2.2.2.2.2.1) >>= fun v1 =>
 if (!v1.2.2) then (some (.inr (.inl (v1.1, x1.2.2.2.2.2.2))))
 else (app 288 x1.2.2.2.2.2.2 [v1.2.1] >>= fun v2 =>
 some (.inl (v1.1.f_l, v1.1.f_end, v1.1.f_e, v1.1.f_at, v1.1.f_deep, v1.1.f_in, v2)))

def z2r (r : (z00 × (List z03))) : List XV := [xL (List.map z0j r.2)]

def z2s (r : (z00 × (List z03))) : z0s := [oB 71 (bs (z02 r.1))]

noncomputable def zf2 (r : (z00 × (List z03))) : Tg := .r false Tryz.f61.results.toList 1 (z2r r) (z2s r)

def z3w (r : (z00 × z03 × Bool)) : List XV := [.agg (bs (z1q r.2.1)), xB r.2.2]

def z3x (r : (z00 × z03 × Bool)) : z0s := [oB 71 (bs (z02 r.1))]

def z2i (r : (z00 × z03)) : List XV := [.agg (bs (z1q r.2))]

def z2j (r : (z00 × z03)) : z0s := [oB 71 (bs (z02 r.1))]

def z3y (r : (z00 × z03)) : List XV := [.agg (bs (z1q r.2))]

def z3z (r : (z00 × z03)) : z0s := [oB 71 (bs (z02 r.1))]

noncomputable def z5m (F_parse_reader_stmts : z00 → Option (z00 × (List z03))) (F_parse_reader_stmt : z00 → Option (z00 × z03 × Bool)) (F_parse_reader_conditional : z00 → Option (z00 × z03)) (F_parse_reader_loop : z00 → Option (z00 × z03)) (F_parse_reader_recv : z00 → Option (z00 × z03)) (F_parse_reader_block : z00 → Option (z00 × (List z03))) (F_parse_reader_arm : z00 → Option (z00 × z0m)) (x1 : ((List z0e) × Int × Int × Int × Int × Int × (List z0m))) : Option (Sum ((List z0e) × Int × Int × Int × Int × Int × (List z0m)) (Sum (z00 × z03) ((List z0e) × Int × Int × Int × Int × Int × (List z0m)))) :=
 ((if (x1.2.2.1 == 0) then (z30 (z00.mk x1.1 x1.2.1 x1.2.2.1 x1.2.2.2.1 x1.2.2.2.2.1 x1.2.2.2.2.2.1) (ByteArray.mk #[125]) >>= fun v5 =>
 some (!v5))
 else (some false) : Option Bool) >>= fun j2 =>
 if j2 then (F_parse_reader_arm (z00.mk x1.1 x1.2.1 x1.2.2.1 x1.2.2.2.1 x1.2.2.2.2.1 x1.2.2.2.2.2.1) >>= fun v6 =>
 app 56 x1.2.2.2.2.2.2 [v6.2] >>= fun v7 =>
 some (.inl (v6.1.f_l, v6.1.f_end, v6.1.f_e, v6.1.f_at, v6.1.f_deep, v6.1.f_in, v7)))
 else (some (.inr (.inr (x1.1, x1.2.1, x1.2.2.1, x1.2.2.2.1, x1.2.2.2.2.1, x1.2.2.2.2.2.1, x1.2.2.2.2.2.2)))))

def z3j (r : (z00 × z03)) : List XV := [.agg (bs (z1q r.2))]

def z3k (r : (z00 × z03)) : z0s := [oB 71 (bs (z02 r.1))]

noncomputable def zft (r : (z00 × z03)) : Tg := .r false Tryz.f119.results.toList 1 (z3j r) (z3k r)

def z2t (r : (z00 × (List z03))) : List XV := [xL (List.map z0j r.2)]

def z2u (r : (z00 × (List z03))) : z0s := [oB 71 (bs (z02 r.1))]

def z3u (r : (z00 × z0m)) : List XV := [.agg (bs (z5p r.2))]

def z3v (r : (z00 × z0m)) : z0s := [oB 71 (bs (z02 r.1))]

mutual
noncomputable def z13 : Nat → z00 → Option (z00 × (List z03))
  | 0, _ => none
  | n + 1, a0 => iter (z6w (z13 n) (z0p n) (z0z n) (z1v n) (z1p n) (z0i n) (z19 n)) (a0.f_l, a0.f_end, a0.f_e, a0.f_at, a0.f_deep, a0.f_in, []) >>= Sum.elim (fun r => some r) (fun j1 =>
 none)
noncomputable def z0p : Nat → z00 → Option (z00 × z03 × Bool)
  | 0, _ => none
  | n + 1, a0 => z0g a0 (ByteArray.mk #[105, 102]) >>= fun v1 =>
 if v1.2 then ((z0z n) v1.1 >>= fun v2 =>
 some (v2.1, v2.2, true))
 else (z0g v1.1 (ByteArray.mk #[119, 104, 105, 108, 101]) >>= fun v3 =>
 if v3.2 then ((z1v n) v3.1 >>= fun v4 =>
 some (v4.1, v4.2, true))
 else (z0g v3.1 (ByteArray.mk #[115, 101, 110, 100]) >>= fun v5 =>
 if v5.2 then (z6g v5.1 >>= fun v6 =>
 some (v6.1, v6.2, true))
 else (z0g v5.1 (ByteArray.mk #[114, 101, 99, 118]) >>= fun v7 =>
 if v7.2 then ((z1p n) v7.1 >>= fun v8 =>
 some (v8.1, v8.2, true))
 else (z0g v7.1 (ByteArray.mk #[97, 115, 115, 101, 114, 116]) >>= fun v9 =>
 if v9.2 then (z5w v9.1 >>= fun v10 =>
 some (v10.1, v10.2, true))
 else (z0g v9.1 (ByteArray.mk #[105, 110, 112, 117, 116]) >>= fun v11 =>
 if v11.2 then (z65 v11.1 >>= fun v12 =>
 some (v12.1, v12.2, true))
 else (z5j v11.1 1 >>= fun v13 =>
 if v13 then (z5x v11.1 >>= fun v14 =>
 some (v14.1, v14.2, true))
 else (some (v11.1, (z03.mk 0 (ByteArray.mk #[]) (ByteArray.mk #[]) (z04.mk 0 0 (ByteArray.mk #[]) []) (z31.mk 0 (z04.mk 0 0 (ByteArray.mk #[]) []) (z04.mk 0 0 (ByteArray.mk #[]) [])) [] [] []), false))))))))
noncomputable def z0z : Nat → z00 → Option (z00 × z03)
  | 0, _ => none
  | n + 1, a0 => z4z a0 >>= fun v1 =>
 (z0i n) v1.1 >>= fun v2 =>
 z0g v2.1 (ByteArray.mk #[101, 108, 115, 101]) >>= fun v3 =>
 if v3.2 then ((z0i n) v3.1 >>= fun v4 =>
 some (v4.1, (z03.mk 2 (ByteArray.mk #[]) (ByteArray.mk #[]) (z04.mk 0 0 (ByteArray.mk #[]) []) v1.2 v2.2 v4.2 [])))
 else (some (v3.1, (z03.mk 2 (ByteArray.mk #[]) (ByteArray.mk #[]) (z04.mk 0 0 (ByteArray.mk #[]) []) v1.2 v2.2 [] [])))
noncomputable def z1v : Nat → z00 → Option (z00 × z03)
  | 0, _ => none
  | n + 1, a0 => z4z a0 >>= fun v1 =>
 (z0i n) v1.1 >>= fun v2 =>
 some (v2.1, (z03.mk 3 (ByteArray.mk #[]) (ByteArray.mk #[]) (z04.mk 0 0 (ByteArray.mk #[]) []) v1.2 v2.2 [] []))
noncomputable def z1p : Nat → z00 → Option (z00 × z03)
  | 0, _ => none
  | n + 1, a0 => z0f a0 >>= fun v1 =>
 z05 v1.1 (ByteArray.mk #[123]) >>= fun v2 =>
 (z19 n) v2 >>= fun v3 =>
 app 56 [] [v3.2] >>= fun v4 =>
 iter (z5m (z13 n) (z0p n) (z0z n) (z1v n) (z1p n) (z0i n) (z19 n)) (v3.1.f_l, v3.1.f_end, v3.1.f_e, v3.1.f_at, v3.1.f_deep, v3.1.f_in, v4) >>= Sum.elim (fun _ => none) (fun j1 =>
 z05 (z00.mk j1.1 j1.2.1 j1.2.2.1 j1.2.2.2.1 j1.2.2.2.2.1 j1.2.2.2.2.2.1) (ByteArray.mk #[125]) >>= fun v8 =>
 some (v8, (z03.mk 5 v1.2 (ByteArray.mk #[]) (z04.mk 0 0 (ByteArray.mk #[]) []) (z31.mk 0 (z04.mk 0 0 (ByteArray.mk #[]) []) (z04.mk 0 0 (ByteArray.mk #[]) [])) [] [] j1.2.2.2.2.2.2)))
noncomputable def z0i : Nat → z00 → Option (z00 × (List z03))
  | 0, _ => none
  | n + 1, a0 => ((z30 a0 (ByteArray.mk #[123]) >>= fun v1 =>
 if v1 then (some (a0.f_in == 24))
 else (some false) : Option Bool) >>= fun j1 =>
 if j1 then (z29 a0 6 >>= fun v2 =>
 some (v2, []))
 else (z05 a0 (ByteArray.mk #[123]) >>= fun v3 =>
 (z13 n) (z00.mk v3.f_l v3.f_end v3.f_e v3.f_at v3.f_deep (IntKind.i64.wrap (v3.f_in + 1))) >>= fun v4 =>
 z05 (z00.mk v4.1.f_l v4.1.f_end v4.1.f_e v4.1.f_at v4.1.f_deep (IntKind.i64.wrap (v4.1.f_in - 1))) (ByteArray.mk #[125]) >>= fun v5 =>
 some (v5, v4.2)))
noncomputable def z19 : Nat → z00 → Option (z00 × z0m)
  | 0, _ => none
  | n + 1, a0 => z0f a0 >>= fun v1 =>
 z05 v1.1 (ByteArray.mk #[40]) >>= fun v2 =>
 z0f v2 >>= fun v3 =>
 z05 v3.1 (ByteArray.mk #[41]) >>= fun v4 =>
 (z0i n) v4 >>= fun v5 =>
 some (v5.1, (z0m.mk v1.2 v3.2 v5.2))
end

noncomputable def z66 (a0 : z00) : Option (z00 × (List z03)) := unf fun n => z13 n a0

noncomputable def z3a (x1 : ((List z0e) × Int × Int × Int × Int × Int × (List ByteArray))) : Option (Sum ((List z0e) × Int × Int × Int × Int × Int × (List ByteArray)) (Sum (z00 × z2h) ((List z0e) × Int × Int × Int × Int × Int × (List ByteArray)))) :=
 z0g (z00.mk x1.1 x1.2.1 x1.2.2.1 x1.2.2.2.1 x1.2.2.2.2.1 x1.2.2.2.2.2.1) (ByteArray.mk #[118, 97, 114]) >>= fun v3 =>
 if v3.2 then (z0f v3.1 >>= fun v4 =>
 app 16 x1.2.2.2.2.2.2 [v4.2] >>= fun v5 =>
 z05 v4.1 (ByteArray.mk #[59]) >>= fun v6 =>
 some (.inl (v6.f_l, v6.f_end, v6.f_e, v6.f_at, v6.f_deep, v6.f_in, v5)))
 else (some (.inr (.inr (v3.1.f_l, v3.1.f_end, v3.1.f_e, v3.1.f_at, v3.1.f_deep, v3.1.f_in, x1.2.2.2.2.2.2))))

noncomputable def z6h (a0 : z00) : Option (z00 × z2h) :=
 z0f a0 >>= fun v1 =>
 z05 v1.1 (ByteArray.mk #[123]) >>= fun v2 =>
 iter (z3a) (v2.f_l, v2.f_end, v2.f_e, v2.f_at, v2.f_deep, v2.f_in, []) >>= Sum.elim (fun _ => none) (fun j1 =>
 z66 (z00.mk j1.1 j1.2.1 j1.2.2.1 j1.2.2.2.1 j1.2.2.2.2.1 j1.2.2.2.2.2.1) >>= fun v7 =>
 z05 v7.1 (ByteArray.mk #[125]) >>= fun v8 =>
 some (v8, (z2h.mk v1.2 j1.2.2.2.2.2.2 v7.2)))

def z9e (r : (z00 × z2h)) : List XV := [.agg (bs (z0k r.2))]

def z9f (r : (z00 × z2h)) : z0s := [oB 71 (bs (z02 r.1))]

noncomputable def zfu (r : (z00 × z2h)) : Tg := .r false Tryz.f23.results.toList 1 (z9e r) (z9f r)

noncomputable def z5y (x1 : ((List z0e) × Int × Int × Int × Int × Int × (List z23))) : Option (Sum ((List z0e) × Int × Int × Int × Int × Int × (List z23)) (Sum (z16 × Int × Int) ((List z0e) × Int × Int × Int × Int × Int × (List z23)))) :=
 z0g (z00.mk x1.1 x1.2.1 x1.2.2.1 x1.2.2.2.1 x1.2.2.2.2.1 x1.2.2.2.2.2.1) (ByteArray.mk #[99, 104, 97, 110]) >>= fun v2 =>
 if v2.2 then (z5l v2.1 >>= fun v3 =>
 app 88 x1.2.2.2.2.2.2 [v3.2] >>= fun v4 =>
 some (.inl (v3.1.f_l, v3.1.f_end, v3.1.f_e, v3.1.f_at, v3.1.f_deep, v3.1.f_in, v4)))
 else (some (.inr (.inr (v2.1.f_l, v2.1.f_end, v2.1.f_e, v2.1.f_at, v2.1.f_deep, v2.1.f_in, x1.2.2.2.2.2.2))))

noncomputable def z5z (x2 : ((List z0e) × Int × Int × Int × Int × Int × (List z2g))) : Option (Sum ((List z0e) × Int × Int × Int × Int × Int × (List z2g)) (Sum (z16 × Int × Int) ((List z0e) × Int × Int × Int × Int × Int × (List z2g)))) :=
 z0g (z00.mk x2.1 x2.2.1 x2.2.2.1 x2.2.2.2.1 x2.2.2.2.2.1 x2.2.2.2.2.2.1) (ByteArray.mk #[114, 117, 108, 101]) >>= fun v5 =>
 if v5.2 then (z6f v5.1 >>= fun v6 =>
 app 40 x2.2.2.2.2.2.2 [v6.2] >>= fun v7 =>
 some (.inl (v6.1.f_l, v6.1.f_end, v6.1.f_e, v6.1.f_at, v6.1.f_deep, v6.1.f_in, v7)))
 else (some (.inr (.inr (v5.1.f_l, v5.1.f_end, v5.1.f_e, v5.1.f_at, v5.1.f_deep, v5.1.f_in, x2.2.2.2.2.2.2))))

noncomputable def z5e (x3 : ((List z0e) × Int × Int × Int × Int × Int × (List z2h))) : Option (Sum ((List z0e) × Int × Int × Int × Int × Int × (List z2h)) (Sum (z16 × Int × Int) ((List z0e) × Int × Int × Int × Int × Int × (List z2h)))) :=
 z0g (z00.mk x3.1 x3.2.1 x3.2.2.1 x3.2.2.2.1 x3.2.2.2.2.1 x3.2.2.2.2.2.1) (ByteArray.mk #[112, 114, 111, 99]) >>= fun v8 =>
 if v8.2 then (z6h v8.1 >>= fun v9 =>
 app 64 x3.2.2.2.2.2.2 [v9.2] >>= fun v10 =>
 some (.inl (v9.1.f_l, v9.1.f_end, v9.1.f_e, v9.1.f_at, v9.1.f_deep, v9.1.f_in, v10)))
 else (some (.inr (.inr (v8.1.f_l, v8.1.f_end, v8.1.f_e, v8.1.f_at, v8.1.f_deep, v8.1.f_in, x3.2.2.2.2.2.2))))

noncomputable def z6l (a0 : ByteArray) : Option (z16 × Int × Int) :=
 ze0 a0 >>= fun v1 =>
 if (v1.2.2 != 0) then (some ((z16.mk [] [] []), v1.2.1, v1.2.2))
 else (iter (z5y) (v1.1, (a0.size : Int), 0, 0, 0, 0, []) >>= Sum.elim (fun _ => none) (fun j1 =>
 iter (z5z) (j1.1, j1.2.1, j1.2.2.1, j1.2.2.2.1, j1.2.2.2.2.1, j1.2.2.2.2.2.1, []) >>= Sum.elim (fun _ => none) (fun j2 =>
 iter (z5e) (j2.1, j2.2.1, j2.2.2.1, j2.2.2.2.1, j2.2.2.2.2.1, j2.2.2.2.2.2.1, []) >>= Sum.elim (fun _ => none) (fun j3 =>
 if (decide ((j3.1.length : Int) > 0)) then (z29 (z00.mk j3.1 j3.2.1 j3.2.2.1 j3.2.2.2.1 j3.2.2.2.2.1 j3.2.2.2.2.2.1) 5 >>= fun v11 =>
 if (v11.f_e != 0) then (some ((z16.mk [] [] []), v11.f_at, v11.f_e))
 else (some ((z16.mk j1.2.2.2.2.2.2 j2.2.2.2.2.2.2 j3.2.2.2.2.2.2), 0, 0)))
 else (if (j3.2.2.1 != 0) then (some ((z16.mk [] [] []), j3.2.2.2.1, j3.2.2.1))
 else (some ((z16.mk j1.2.2.2.2.2.2 j2.2.2.2.2.2.2 j3.2.2.2.2.2.2), 0, 0)))))))

def z7g (r : (z16 × Int × Int)) : List XV := [.agg (bs (z3t r.1)), xI r.2.1, xI r.2.2]

def zgq (r : (z16 × Int × Int)) : z0s := []

noncomputable def zd6 (r : (z16 × Int × Int)) : Tg := .r false Tryz.f9.results.toList 0 (z7g r) (zgq r)

noncomputable def zbg : Option Bool :=
 z6l (ByteArray.mk #[112, 114, 111, 99, 32, 112, 32, 123, 32, 120, 32, 61, 32, 49, 32, 43, 32, 50, 32, 42, 32, 51, 32, 59, 32, 125]) >>= fun v1 =>
 z6l (ByteArray.mk #[112, 114, 111, 99, 32, 112]) >>= fun v2 =>
 ((if (v1.2.2 == 0) then (if ((v1.1.Procs.length : Int) == 1) then (idx v1.1.Procs 0 >>= fun v3 =>
 if ((v3.Body.length : Int) == 1) then (idx v1.1.Procs 0 >>= fun v4 =>
 idx v4.Body 0 >>= fun v5 =>
 if (v5.E.Kind == 4) then (idx v1.1.Procs 0 >>= fun v6 =>
 idx v6.Body 0 >>= fun v7 =>
 if ((v7.E.Kids.length : Int) == 2) then (idx v1.1.Procs 0 >>= fun v8 =>
 idx v8.Body 0 >>= fun v9 =>
 idx v9.E.Kids 1 >>= fun v10 =>
 if (v10.Kind == 6) then (if (v2.2.2 == 5) then (some (v2.2.1 == 6))
 else (some false))
 else (some false))
 else (some false))
 else (some false))
 else (some false))
 else (some false))
 else (some false) : Option Bool) >>= fun j1 =>
 some j1)

def zav (r : Bool) : List XV := [xB r]

def zmn (r : Bool) : z0s := []

noncomputable def z9n (a0 : (List z3s)) (a1 : (List z3s)) (x1 : Int) : Option (Sum Int (Sum Bool Unit)) :=
 if (decide (x1 < (a0.length : Int))) then (idx a0 x1 >>= fun v1 =>
 idx a1 x1 >>= fun v2 =>
 if (!((v1.From : Int) == v2.From && (v1.Tag.toList == v2.Tag.toList && ((v1.To : Int) == v2.To && true)))) then (some (.inr (.inl false)))
 else (some (.inl (IntKind.i64.wrap (x1 + 1)))))
 else (some (.inr (.inr ())))

noncomputable def ze3 (a0 : (List z3s)) (a1 : (List z3s)) : Option Bool :=
 if ((a0.length : Int) != (a1.length : Int)) then (some false)
 else (iter (z9n a0 a1) 0 >>= Sum.elim (fun r => some r) (fun j1 =>
 some true))

def zd7 (r : Bool) : List XV := [xB r]

def zjb (r : Bool) : z0s := []

noncomputable def zog (r : Bool) : Tg := .r false Tryz.f35.results.toList 0 (zd7 r) (zjb r)

noncomputable def zeu (a0 : z2g) (a1 : z2g) : Option Bool :=
 if (a0.Chan.toList == a1.Chan.toList) then (ze3 a0.Moves a1.Moves >>= fun v1 =>
 some v1)
 else (some false)

def ze4 (r : Bool) : List XV := [xB r]

def zmo (r : Bool) : z0s := []

noncomputable def z50 (a0 : (List z2g)) (a1 : (List z2g)) (x1 : Int) : Option (Sum Int (Sum Bool Unit)) :=
 if (decide (x1 < (a0.length : Int))) then (idx a0 x1 >>= fun v1 =>
 idx a1 x1 >>= fun v2 =>
 zeu v1 v2 >>= fun v3 =>
 if (!v3) then (some (.inr (.inl false)))
 else (some (.inl (IntKind.i64.wrap (x1 + 1)))))
 else (some (.inr (.inr ())))

noncomputable def z6b (a0 : (List z2g)) (a1 : (List z2g)) : Option Bool :=
 if ((a0.length : Int) != (a1.length : Int)) then (some false)
 else (iter (z50 a0 a1) 0 >>= Sum.elim (fun r => some r) (fun j1 =>
 some true))

def z6p (r : Bool) : List XV := [xB r]

def za4 (r : Bool) : z0s := []

noncomputable def zdj (r : Bool) : Tg := .r false Tryz.f33.results.toList 0 (z6p r) (za4 r)

noncomputable def z3p (a0 : (List ByteArray)) (a1 : (List ByteArray)) (x1 : Int) : Option (Sum Int (Sum Bool Unit)) :=
 if (decide (x1 < (a0.length : Int))) then (idx a0 x1 >>= fun v1 =>
 idx a1 x1 >>= fun v2 =>
 if (!(v1.toList == v2.toList)) then (some (.inr (.inl false)))
 else (some (.inl (IntKind.i64.wrap (x1 + 1)))))
 else (some (.inr (.inr ())))

noncomputable def z45 (a0 : (List ByteArray)) (a1 : (List ByteArray)) : Option Bool :=
 if ((a0.length : Int) != (a1.length : Int)) then (some false)
 else (iter (z3p a0 a1) 0 >>= Sum.elim (fun r => some r) (fun j1 =>
 some true))

def z3r (r : Bool) : List XV := [xB r]

def z7k (r : Bool) : z0s := []

noncomputable def zb0 (r : Bool) : Tg := .r false Tryz.f38.results.toList 0 (z3r r) (z7k r)

def z4x (r : Bool) : List XV := [xB r]

def zju (r : Bool) : z0s := []

noncomputable def z4h (F_ast_sameExpr : z04 → z04 → Option Bool) (F_ast_Expr__ast_sameExpr : (List z04) → (List z04) → Option Bool) (a0 : (List z04)) (a1 : (List z04)) (x1 : Int) : Option (Sum Int (Sum Bool Unit)) :=
 if (decide (x1 < (a0.length : Int))) then (idx a0 x1 >>= fun v1 =>
 idx a1 x1 >>= fun v2 =>
 F_ast_sameExpr v1 v2 >>= fun v3 =>
 if (!v3) then (some (.inr (.inl false)))
 else (some (.inl (IntKind.i64.wrap (x1 + 1)))))
 else (some (.inr (.inr ())))

def z47 (r : Bool) : List XV := [xB r]

def z9o (r : Bool) : z0s := []

noncomputable def zcm (r : Bool) : Tg := .r false Tryz.f101.results.toList 0 (z47 r) (z9o r)

mutual
noncomputable def z52 : Nat → z04 → z04 → Option Bool
  | 0, _, _ => none
  | n + 1, a0, a1 => ((if (a0.Kind != a1.Kind) then (some true)
 else (if (a0.Kind == 1) then (if (a0.Num != a1.Num) then (some true)
 else (if (a0.Kind == 2) then (some (!(a0.Name.toList == a1.Name.toList)))
 else (some false)))
 else (if (a0.Kind == 2) then (some (!(a0.Name.toList == a1.Name.toList)))
 else (some false))) : Option Bool) >>= fun j1 =>
 if j1 then (some false)
 else ((z2b n) a0.Kids a1.Kids >>= fun v1 =>
 some v1))
noncomputable def z2b : Nat → (List z04) → (List z04) → Option Bool
  | 0, _, _ => none
  | n + 1, a0, a1 => if ((a0.length : Int) != (a1.length : Int)) then (some false)
 else (iter (z4h (z52 n) (z2b n) a0 a1) 0 >>= Sum.elim (fun r => some r) (fun j1 =>
 some true))
end

noncomputable def z9p (a0 : z04) (a1 : z04) : Option Bool := unf fun n => z52 n a0 a1

noncomputable def z87 (a0 : z31) (a1 : z31) : Option Bool :=
 if (a0.Op == a1.Op) then (z9p a0.L a1.L >>= fun v1 =>
 if v1 then (z9p a0.R a1.R >>= fun v2 =>
 some v2)
 else (some false))
 else (some false)

def z6d (r : Bool) : List XV := [xB r]

def zjv (r : Bool) : z0s := []

noncomputable def z4i (F_ast_Stmt__ast_sameStmt : (List z03) → (List z03) → Option Bool) (F_ast_sameStmt : z03 → z03 → Option Bool) (F_ast_Arm__ast_sameArm : (List z0m) → (List z0m) → Option Bool) (F_ast_sameArm : z0m → z0m → Option Bool) (a0 : (List z03)) (a1 : (List z03)) (x1 : Int) : Option (Sum Int (Sum Bool Unit)) :=
 if (decide (x1 < (a0.length : Int))) then (idx a0 x1 >>= fun v1 =>
 idx a1 x1 >>= fun v2 =>
 F_ast_sameStmt v1 v2 >>= fun v3 =>
 if (!v3) then (some (.inr (.inl false)))
 else (some (.inl (IntKind.i64.wrap (x1 + 1)))))
 else (some (.inr (.inr ())))

def z1f (r : Bool) : List XV := [xB r]

def z9q (r : Bool) : z0s := []

noncomputable def zcn (r : Bool) : Tg := .r false Tryz.f39.results.toList 0 (z1f r) (z9q r)

def z6e (r : Bool) : List XV := [xB r]

def zjw (r : Bool) : z0s := []

noncomputable def z54 (F_ast_Stmt__ast_sameStmt : (List z03) → (List z03) → Option Bool) (F_ast_sameStmt : z03 → z03 → Option Bool) (F_ast_Arm__ast_sameArm : (List z0m) → (List z0m) → Option Bool) (F_ast_sameArm : z0m → z0m → Option Bool) (a0 : (List z0m)) (a1 : (List z0m)) (x1 : Int) : Option (Sum Int (Sum Bool Unit)) :=
 if (decide (x1 < (a0.length : Int))) then (idx a0 x1 >>= fun v1 =>
 idx a1 x1 >>= fun v2 =>
 F_ast_sameArm v1 v2 >>= fun v3 =>
 if (!v3) then (some (.inr (.inl false)))
 else (some (.inl (IntKind.i64.wrap (x1 + 1)))))
 else (some (.inr (.inr ())))

def z3m (r : Bool) : List XV := [xB r]

def za5 (r : Bool) : z0s := []

noncomputable def zdk (r : Bool) : Tg := .r false Tryz.f71.results.toList 0 (z3m r) (za5 r)

def z6x (r : Bool) : List XV := [xB r]

def zl1 (r : Bool) : z0s := []

mutual
noncomputable def z10 : Nat → (List z03) → (List z03) → Option Bool
  | 0, _, _ => none
  | n + 1, a0, a1 => if ((a0.length : Int) != (a1.length : Int)) then (some false)
 else (iter (z4i (z10 n) (z3n n) (z1i n) (z4d n) a0 a1) 0 >>= Sum.elim (fun r => some r) (fun j1 =>
 some true))
noncomputable def z3n : Nat → z03 → z03 → Option Bool
  | 0, _, _ => none
  | n + 1, a0, a1 => if (a0.Kind != a1.Kind) then (some false)
 else (if (a0.Kind == 1) then (((if (a0.Name.toList == a1.Name.toList) then (z9p a0.E a1.E >>= fun v1 =>
 some v1)
 else (some false) : Option Bool) >>= fun j1 =>
 some j1))
 else (if (a0.Kind == 2) then (((z87 a0.C a1.C >>= fun v2 =>
 if v2 then ((z10 n) a0.Body a1.Body >>= fun v3 =>
 if v3 then ((z10 n) a0.Else a1.Else >>= fun v4 =>
 some v4)
 else (some false))
 else (some false) : Option Bool) >>= fun j2 =>
 some j2))
 else (if (a0.Kind == 3) then (((z87 a0.C a1.C >>= fun v5 =>
 if v5 then ((z10 n) a0.Body a1.Body >>= fun v6 =>
 some v6)
 else (some false) : Option Bool) >>= fun j3 =>
 some j3))
 else (if (a0.Kind == 4) then (((if (a0.Name.toList == a1.Name.toList) then (if (a0.Tag.toList == a1.Tag.toList) then (z9p a0.E a1.E >>= fun v7 =>
 some v7)
 else (some false))
 else (some false) : Option Bool) >>= fun j4 =>
 some j4))
 else (if (a0.Kind == 5) then (((if (a0.Name.toList == a1.Name.toList) then ((z1i n) a0.Arms a1.Arms >>= fun v8 =>
 some v8)
 else (some false) : Option Bool) >>= fun j5 =>
 some j5))
 else (if (a0.Kind == 6) then (z87 a0.C a1.C >>= fun v9 =>
 some v9)
 else (if (a0.Kind == 7) then (some (a0.Name.toList == a1.Name.toList))
 else (some true))))))))
noncomputable def z1i : Nat → (List z0m) → (List z0m) → Option Bool
  | 0, _, _ => none
  | n + 1, a0, a1 => if ((a0.length : Int) != (a1.length : Int)) then (some false)
 else (iter (z54 (z10 n) (z3n n) (z1i n) (z4d n) a0 a1) 0 >>= Sum.elim (fun r => some r) (fun j1 =>
 some true))
noncomputable def z4d : Nat → z0m → z0m → Option Bool
  | 0, _, _ => none
  | n + 1, a0, a1 => if (a0.Tag.toList == a1.Tag.toList) then (if (a0.Var.toList == a1.Var.toList) then ((z10 n) a0.Body a1.Body >>= fun v1 =>
 some v1)
 else (some false))
 else (some false)
end

noncomputable def z7s (a0 : (List z03)) (a1 : (List z03)) : Option Bool := unf fun n => z10 n a0 a1

noncomputable def zev (a0 : z2h) (a1 : z2h) : Option Bool :=
 if (a0.Name.toList == a1.Name.toList) then (z45 a0.Vars a1.Vars >>= fun v1 =>
 if v1 then (z7s a0.Body a1.Body >>= fun v2 =>
 some v2)
 else (some false))
 else (some false)

def ze5 (r : Bool) : List XV := [xB r]

def zmp (r : Bool) : z0s := []

noncomputable def z55 (a0 : (List z2h)) (a1 : (List z2h)) (x1 : Int) : Option (Sum Int (Sum Bool Unit)) :=
 if (decide (x1 < (a0.length : Int))) then (idx a0 x1 >>= fun v1 =>
 idx a1 x1 >>= fun v2 =>
 zev v1 v2 >>= fun v3 =>
 if (!v3) then (some (.inr (.inl false)))
 else (some (.inl (IntKind.i64.wrap (x1 + 1)))))
 else (some (.inr (.inr ())))

noncomputable def z6c (a0 : (List z2h)) (a1 : (List z2h)) : Option Bool :=
 if ((a0.length : Int) != (a1.length : Int)) then (some false)
 else (iter (z55 a0 a1) 0 >>= Sum.elim (fun r => some r) (fun j1 =>
 some true))

def z6q (r : Bool) : List XV := [xB r]

def za6 (r : Bool) : z0s := []

noncomputable def zdl (r : Bool) : Tg := .r false Tryz.f36.results.toList 0 (z6q r) (za6 r)

noncomputable def zc6 (a0 : z23) (a1 : z23) : Option Bool :=
 ((if (a0.Name.toList == a1.Name.toList) then (if (a0.Kind == a1.Kind) then (if (a0.Size == a1.Size) then (if (a0.From.toList == a1.From.toList) then (if (a0.To.toList == a1.To.toList) then (z45 a0.Tags a1.Tags >>= fun v1 =>
 some v1)
 else (some false))
 else (some false))
 else (some false))
 else (some false))
 else (some false) : Option Bool) >>= fun j1 =>
 some j1)

def zcd (r : Bool) : List XV := [xB r]

def zjx (r : Bool) : z0s := []

noncomputable def z4j (a0 : (List z23)) (a1 : (List z23)) (x1 : Int) : Option (Sum Int (Sum Bool Unit)) :=
 if (decide (x1 < (a0.length : Int))) then (idx a0 x1 >>= fun v1 =>
 idx a1 x1 >>= fun v2 =>
 zc6 v1 v2 >>= fun v3 =>
 if (!v3) then (some (.inr (.inl false)))
 else (some (.inl (IntKind.i64.wrap (x1 + 1)))))
 else (some (.inr (.inr ())))

noncomputable def z5q (a0 : (List z23)) (a1 : (List z23)) : Option Bool :=
 if ((a0.length : Int) != (a1.length : Int)) then (some false)
 else (iter (z4j a0 a1) 0 >>= Sum.elim (fun r => some r) (fun j1 =>
 some true))

def z67 (r : Bool) : List XV := [xB r]

def z9r (r : Bool) : z0s := []

noncomputable def zco (r : Bool) : Tg := .r false Tryz.f41.results.toList 0 (z67 r) (z9r r)

noncomputable def zew (a0 : z16) (a1 : z16) : Option Bool :=
 z6b a0.Rules a1.Rules >>= fun v1 =>
 z6c a0.Procs a1.Procs >>= fun v2 =>
 if v1 then (if v2 then (z5q a0.Chans a1.Chans >>= fun v3 =>
 some v3)
 else (some false))
 else (some false)

def zex (r : Bool) : List XV := [xB r]

def zrx (r : Bool) : z0s := []

noncomputable def zbs (a0 : ByteArray) : Option Bool :=
 ((if (!(a0.toList == (ByteArray.mk #[]).toList)) then (bidx a0 0 >>= fun v1 =>
 if (decide (v1 ≥ 97)) then (bidx a0 0 >>= fun v2 =>
 if (decide (v2 ≤ 122)) then (some true)
 else (bidx a0 0 >>= fun v3 =>
 if (decide (v3 ≥ 48)) then (bidx a0 0 >>= fun v4 =>
 some (decide (v4 ≤ 57)))
 else (some false)))
 else (bidx a0 0 >>= fun v5 =>
 if (decide (v5 ≥ 48)) then (bidx a0 0 >>= fun v6 =>
 some (decide (v6 ≤ 57)))
 else (some false)))
 else (some false) : Option Bool) >>= fun j1 =>
 some j1)

def z71 (r : Bool) : List XV := [xB r]

def zoh (r : Bool) : z0s := []

noncomputable def z48 (v7 : ((List ByteArray) × Int)) (x3 : (ByteArray × Int)) : Option (Sum (ByteArray × Int) (Sum Bool ByteArray)) :=
 if (decide (x3.2 < (v7.1.length : Int))) then (((((if (decide (x3.2 > 0)) then (idx v7.1 (IntKind.i64.wrap (x3.2 - 1)) >>= fun v8 =>
 zbs v8 >>= fun v9 =>
 if v9 then (idx v7.1 x3.2 >>= fun v10 =>
 zbs v10 >>= fun v11 =>
 if v11 then (some true)
 else (idx v7.1 x3.2 >>= fun v12 =>
 if (v12.toList == (ByteArray.mk #[61]).toList) then (some true)
 else (idx v7.1 x3.2 >>= fun v13 =>
 some (v13.toList == (ByteArray.mk #[61, 61]).toList))))
 else (idx v7.1 x3.2 >>= fun v14 =>
 if (v14.toList == (ByteArray.mk #[61]).toList) then (some true)
 else (idx v7.1 x3.2 >>= fun v15 =>
 some (v15.toList == (ByteArray.mk #[61, 61]).toList))))
 else (some false) : Option Bool) >>= fun j5 =>
 if j5 then (scat x3.1 (ByteArray.mk #[10]) >>= fun v16 =>
 idx v7.1 x3.2 >>= fun v17 =>
 scat v16 v17 >>= fun v18 =>
 some v18)
 else (idx v7.1 x3.2 >>= fun v19 =>
 scat x3.1 v19 >>= fun v20 =>
 some v20)) : Option ByteArray) >>= fun j4 =>
 some (.inl (j4, (IntKind.i64.wrap (x3.2 + 1))))))
 else (some (.inr (.inr x3.1)))

noncomputable def zal (a0 : z43) : Option Bool :=
 zcg a0 >>= fun v1 =>
 zgp v1 >>= fun v2 =>
 ((zbg >>= fun v3 =>
 if (!v3) then (some true)
 else (some (v2.2 != 0)) : Option Bool) >>= fun j1 =>
 if j1 then (zbg >>= fun v4 =>
 some v4)
 else (z6l v2.1 >>= fun v5 =>
 ((if (v5.2.2 != 0) then (some true)
 else (if (v5.2.1 != 0) then (some true)
 else (zew v1 v5.1 >>= fun v6 =>
 some (!v6))) : Option Bool) >>= fun j2 =>
 if j2 then (some false)
 else (zcl v1 >>= fun v7 =>
 iter (z48 v7) ((ByteArray.mk #[]), 0) >>= Sum.elim (fun _ => none) (fun j3 =>
 z6l j3 >>= fun v21 =>
 if (v21.2.2 == 0) then (zew v1 v21.1 >>= fun v22 =>
 some v22)
 else (some false))))))

def zb1 (r : Bool) : List XV := [xB r]

def zde (r : Bool) : z0s := []

noncomputable def zi9 (r : Bool) : Tg := .r false Tryz.f8.results.toList 0 (zb1 r) (zde r)
end Go.Proofs.YtokjbpmjdcbogaaGreatDoor.Abs
