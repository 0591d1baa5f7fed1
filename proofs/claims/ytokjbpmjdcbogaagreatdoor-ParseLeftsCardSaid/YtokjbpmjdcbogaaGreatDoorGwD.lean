/- Gw: the functions, told by typed values. -/
import Derived.Test.YtokjbpmjdcbogaaGreatDoorHandT
import Derived.Test.YtokjbpmjdcbogaaGreatDoorProg
namespace Go.Proofs.YtokjbpmjdcbogaaGreatDoor.Abs
open Go Go.RowKit
set_option linter.unusedVariables false

structure z27 where
 Name : ByteArray
 Kind : Int
 Size : Int
 From : ByteArray
 To : ByteArray
 Tags : (List ByteArray)
structure z39 where
 From : Int
 Tag : ByteArray
 To : Int
structure z2a where
 Chan : ByteArray
 Moves : (List z39)
structure z03 where
 Kind : Int
 Num : Int
 Name : ByteArray
 Kids : (List z03)
structure z33 where
 Op : Int
 L : z03
 R : z03
mutual
inductive z0r where
 | mk (Tag : ByteArray) (Var : ByteArray) (Body : (List z02))
inductive z02 where
 | mk (Kind : Int) (Name : ByteArray) (Tag : ByteArray) (E : z03) (C : z33) (Body : (List z02)) (Else : (List z02)) (Arms : (List z0r))
end
def z0r.Tag : z0r → ByteArray
 | .mk x _ _ => x
def z0r.Var : z0r → ByteArray
 | .mk _ x _ => x
def z0r.Body : z0r → (List z02)
 | .mk _ _ x => x
def z02.Kind : z02 → Int
 | .mk x _ _ _ _ _ _ _ => x
def z02.Name : z02 → ByteArray
 | .mk _ x _ _ _ _ _ _ => x
def z02.Tag : z02 → ByteArray
 | .mk _ _ x _ _ _ _ _ => x
def z02.E : z02 → z03
 | .mk _ _ _ x _ _ _ _ => x
def z02.C : z02 → z33
 | .mk _ _ _ _ x _ _ _ => x
def z02.Body : z02 → (List z02)
 | .mk _ _ _ _ _ x _ _ => x
def z02.Else : z02 → (List z02)
 | .mk _ _ _ _ _ _ x _ => x
def z02.Arms : z02 → (List z0r)
 | .mk _ _ _ _ _ _ _ x => x
structure z2d where
 Name : ByteArray
 Vars : (List ByteArray)
 Body : (List z02)
structure z8z where
 Name : ByteArray
 Kind : Int
 Size : Int
 From : ByteArray
 To : ByteArray
 Tags : (List ByteArray)
structure z9w where
 From : Int
 Tag : ByteArray
 To : Int
structure z90 where
 Chan : ByteArray
 Moves : (List z9w)
structure z05 where
 Kind : Int
 Num : Int
 Name : ByteArray
 Kids : (List z05)
structure z4f where
 Op : Int
 L : z05
 R : z05
mutual
inductive z4q where
 | mk (Tag : ByteArray) (Var : ByteArray) (Body : (List z0k))
inductive z0k where
 | mk (Kind : Int) (Name : ByteArray) (Tag : ByteArray) (E : z05) (C : z4f) (Body : (List z0k)) (Else : (List z0k)) (Arms : (List z4q))
end
def z4q.Tag : z4q → ByteArray
 | .mk x _ _ => x
def z4q.Var : z4q → ByteArray
 | .mk _ x _ => x
def z4q.Body : z4q → (List z0k)
 | .mk _ _ x => x
def z0k.Kind : z0k → Int
 | .mk x _ _ _ _ _ _ _ => x
def z0k.Name : z0k → ByteArray
 | .mk _ x _ _ _ _ _ _ => x
def z0k.Tag : z0k → ByteArray
 | .mk _ _ x _ _ _ _ _ => x
def z0k.E : z0k → z05
 | .mk _ _ _ x _ _ _ _ => x
def z0k.C : z0k → z4f
 | .mk _ _ _ _ x _ _ _ => x
def z0k.Body : z0k → (List z0k)
 | .mk _ _ _ _ _ x _ _ => x
def z0k.Else : z0k → (List z0k)
 | .mk _ _ _ _ _ _ x _ => x
def z0k.Arms : z0k → (List z4q)
 | .mk _ _ _ _ _ _ _ x => x
structure z6p where
 Name : ByteArray
 Vars : (List ByteArray)
 Body : (List z0k)
structure z08 where
 Kind : Int
 Text : ByteArray
 Num : Int
 At : Int
def e_u8 (x : Int) : List PV := [.int .u8 x]
def z4e (x : ByteArray) : List PV := [.str x]
mutual
def z1f : z05 → List PV
 | .mk z_Kind z_Num z_Name z_Kids => [.int .i64 z_Kind, .int .i64 z_Num, .str z_Name, .sl (z91 z_Kids)]
def z91 : List z05 → List (List PV)
 | [] => []
 | x :: xs => z1f x :: z91 xs
end
theorem zap : ∀ l, z91 l = List.map z1f l
 | [] => rfl
 | x :: xs => by rw [z91, zap xs]; rfl
theorem z40 (x : z05) : z1f x = [.int .i64 x.Kind, .int .i64 x.Num, .str x.Name, .sl (List.map z1f x.Kids)] := by
 cases x; rw [z1f, zap]
structure z1g where
 Chans : (List z27)
 Rules : (List z2a)
 Procs : (List z2d)
def z1c (x : z08) : List PV := [.int .i64 x.Kind, .str x.Text, .int .i64 x.Num, .int .i64 x.At]
structure z00 where
 f_l : (List z08)
 f_end : Int
 f_e : Int
 f_at : Int
 f_deep : Int
 f_in : Int
def z01 (x : z00) : List PV := [.sl (List.map z1c x.f_l), .int .i64 x.f_end, .int .i64 x.f_e, .int .i64 x.f_at, .int .i64 x.f_deep, .int .i64 x.f_in]
def z1l (x : z27) : List PV := [.str x.Name, .int .i64 x.Kind, .int .i64 x.Size, .str x.From, .str x.To, .sl (List.map z4e x.Tags)]
def z36 (x : z39) : List PV := [.int .i64 x.From, .str x.Tag, .int .i64 x.To]
def z24 (x : z2a) : List PV := [.str x.Chan, .sl (List.map z36 x.Moves)]
mutual
def z0q : z03 → List PV
 | .mk z_Kind z_Num z_Name z_Kids => [.int .i64 z_Kind, .int .i64 z_Num, .str z_Name, .sl (z92 z_Kids)]
def z92 : List z03 → List (List PV)
 | [] => []
 | x :: xs => z0q x :: z92 xs
end
theorem zaq : ∀ l, z92 l = List.map z0q l
 | [] => rfl
 | x :: xs => by rw [z92, zaq xs]; rfl
theorem z3r (x : z03) : z0q x = [.int .i64 x.Kind, .int .i64 x.Num, .str x.Name, .sl (List.map z0q x.Kids)] := by
 cases x; rw [z0q, zaq]
theorem zf3 (x : z03) : (z0q x).length = 4 := by rw [z3r]; rfl
mutual
def z1j : z0r → List PV
 | .mk z_Tag z_Var z_Body => [.str z_Tag, .str z_Var, .sl (z5y z_Body)]
def z8n : List z0r → List (List PV)
 | [] => []
 | x :: xs => z1j x :: z8n xs
def z0s : z02 → List PV
 | .mk z_Kind z_Name z_Tag z_E z_C z_Body z_Else z_Arms => [.int .i64 z_Kind, .str z_Name, .str z_Tag, .int .i64 z_E.Kind, .int .i64 z_E.Num, .str z_E.Name, .sl (List.map z0q z_E.Kids), .int .i64 z_C.Op, .int .i64 z_C.L.Kind, .int .i64 z_C.L.Num, .str z_C.L.Name, .sl (List.map z0q z_C.L.Kids), .int .i64 z_C.R.Kind, .int .i64 z_C.R.Num, .str z_C.R.Name, .sl (List.map z0q z_C.R.Kids), .sl (z5y z_Body), .sl (z5y z_Else), .sl (z8n z_Arms)]
def z5y : List z02 → List (List PV)
 | [] => []
 | x :: xs => z0s x :: z5y xs
end
theorem zbn : ∀ l, z8n l = List.map z1j l
 | [] => by rw [z8n]; rfl
 | x :: xs => by rw [z8n, zbn xs]; rfl
theorem z8o : ∀ l, z5y l = List.map z0s l
 | [] => by rw [z5y]; rfl
 | x :: xs => by rw [z5y, z8o xs]; rfl
theorem z73 (x : z0r) : z1j x = [.str x.Tag, .str x.Var, .sl (List.map z0s x.Body)] := by
 cases x; rw [z1j]; simp only [z8o]; first | done | rfl
theorem z9x (x : z0r) : (z1j x).length = 3 := by rw [z73]; rfl
theorem z2r (x : z02) : z0s x = [.int .i64 x.Kind, .str x.Name, .str x.Tag, .int .i64 x.E.Kind, .int .i64 x.E.Num, .str x.E.Name, .sl (List.map z0q x.E.Kids), .int .i64 x.C.Op, .int .i64 x.C.L.Kind, .int .i64 x.C.L.Num, .str x.C.L.Name, .sl (List.map z0q x.C.L.Kids), .int .i64 x.C.R.Kind, .int .i64 x.C.R.Num, .str x.C.R.Name, .sl (List.map z0q x.C.R.Kids), .sl (List.map z0s x.Body), .sl (List.map z0s x.Else), .sl (List.map z1j x.Arms)] := by
 cases x; rw [z0s]; simp only [zbn, z8o]; first | done | rfl
theorem zbo (x : z02) : (z0s x).length = 19 := by rw [z2r]; rfl

def z8h (x : z33) : List PV := [.int .i64 x.Op, .int .i64 x.L.Kind, .int .i64 x.L.Num, .str x.L.Name, .sl (List.map z0q x.L.Kids), .int .i64 x.R.Kind, .int .i64 x.R.Num, .str x.R.Name, .sl (List.map z0q x.R.Kids)]
def z0j (x : z2d) : List PV := [.str x.Name, .sl (List.map z4e x.Vars), .sl (List.map z0s x.Body)]
def z74 (x : z1g) : List PV := [.sl (List.map z1l x.Chans), .sl (List.map z24 x.Rules), .sl (List.map z0j x.Procs)]
mutual
def z8p : z4q → List PV
 | .mk z_Tag z_Var z_Body => [.str z_Tag, .str z_Var, .sl (z5z z_Body)]
def z8q : List z4q → List (List PV)
 | [] => []
 | x :: xs => z8p x :: z8q xs
def z2o : z0k → List PV
 | .mk z_Kind z_Name z_Tag z_E z_C z_Body z_Else z_Arms => [.int .i64 z_Kind, .str z_Name, .str z_Tag, .int .i64 z_E.Kind, .int .i64 z_E.Num, .str z_E.Name, .sl (List.map z1f z_E.Kids), .int .i64 z_C.Op, .int .i64 z_C.L.Kind, .int .i64 z_C.L.Num, .str z_C.L.Name, .sl (List.map z1f z_C.L.Kids), .int .i64 z_C.R.Kind, .int .i64 z_C.R.Num, .str z_C.R.Name, .sl (List.map z1f z_C.R.Kids), .sl (z5z z_Body), .sl (z5z z_Else), .sl (z8q z_Arms)]
def z5z : List z0k → List (List PV)
 | [] => []
 | x :: xs => z2o x :: z5z xs
end
theorem zbp : ∀ l, z8q l = List.map z8p l
 | [] => by rw [z8q]; rfl
 | x :: xs => by rw [z8q, zbp xs]; rfl
theorem z8r : ∀ l, z5z l = List.map z2o l
 | [] => by rw [z5z]; rfl
 | x :: xs => by rw [z5z, z8r xs]; rfl
theorem zar (x : z4q) : z8p x = [.str x.Tag, .str x.Var, .sl (List.map z2o x.Body)] := by
 cases x; rw [z8p]; simp only [z8r]; first | done | rfl
theorem z9y (x : z0k) : z2o x = [.int .i64 x.Kind, .str x.Name, .str x.Tag, .int .i64 x.E.Kind, .int .i64 x.E.Num, .str x.E.Name, .sl (List.map z1f x.E.Kids), .int .i64 x.C.Op, .int .i64 x.C.L.Kind, .int .i64 x.C.L.Num, .str x.C.L.Name, .sl (List.map z1f x.C.L.Kids), .int .i64 x.C.R.Kind, .int .i64 x.C.R.Num, .str x.C.R.Name, .sl (List.map z1f x.C.R.Kids), .sl (List.map z2o x.Body), .sl (List.map z2o x.Else), .sl (List.map z8p x.Arms)] := by
 cases x; rw [z2o]; simp only [zbp, z8r]; first | done | rfl
def zbb (x : z6p) : List PV := [.str x.Name, .sl (List.map z4e x.Vars), .sl (List.map z2o x.Body)]
structure z38 where
 Chans : (List z8z)
 Rules : (List z90)
 Procs : (List z6p)
def zbc (x : z8z) : List PV := [.str x.Name, .int .i64 x.Kind, .int .i64 x.Size, .str x.From, .str x.To, .sl (List.map z4e x.Tags)]
def zbd (x : z9w) : List PV := [.int .i64 x.From, .str x.Tag, .int .i64 x.To]
def z76 (x : z90) : List PV := [.str x.Chan, .sl (List.map zbd x.Moves)]
def z56 (x : z38) : List PV := [.sl (List.map zbc x.Chans), .sl (List.map z76 x.Rules), .sl (List.map zbb x.Procs)]
def zfo (x : z4f) : List PV := [.int .i64 x.Op, .int .i64 x.L.Kind, .int .i64 x.L.Num, .str x.L.Name, .sl (List.map z1f x.L.Kids), .int .i64 x.R.Kind, .int .i64 x.R.Num, .str x.R.Name, .sl (List.map z1f x.R.Kids)]

def z4g (x : z05) : List PV := [.int .i64 x.Kind, .int .i64 x.Num, .str x.Name, .sl (List.map z1f x.Kids)]
def z25 (x : z03) : List PV := [.int .i64 x.Kind, .int .i64 x.Num, .str x.Name, .sl (List.map z0q x.Kids)]
def z1m (x : z02) : List PV := [.int .i64 x.Kind, .str x.Name, .str x.Tag, .int .i64 x.E.Kind, .int .i64 x.E.Num, .str x.E.Name, .sl (List.map z0q x.E.Kids), .int .i64 x.C.Op, .int .i64 x.C.L.Kind, .int .i64 x.C.L.Num, .str x.C.L.Name, .sl (List.map z0q x.C.L.Kids), .int .i64 x.C.R.Kind, .int .i64 x.C.R.Num, .str x.C.R.Name, .sl (List.map z0q x.C.R.Kids), .sl (List.map z0s x.Body), .sl (List.map z0s x.Else), .sl (List.map z1j x.Arms)]
def z4b (x : z0r) : List PV := [.str x.Tag, .str x.Var, .sl (List.map z0s x.Body)]
def zfp (x : z0k) : List PV := [.int .i64 x.Kind, .str x.Name, .str x.Tag, .int .i64 x.E.Kind, .int .i64 x.E.Num, .str x.E.Name, .sl (List.map z1f x.E.Kids), .int .i64 x.C.Op, .int .i64 x.C.L.Kind, .int .i64 x.C.L.Num, .str x.C.L.Name, .sl (List.map z1f x.C.L.Kids), .int .i64 x.C.R.Kind, .int .i64 x.C.R.Num, .str x.C.R.Name, .sl (List.map z1f x.C.R.Kids), .sl (List.map z2o x.Body), .sl (List.map z2o x.Else), .sl (List.map z8p x.Arms)]
def zeo (x : z4q) : List PV := [.str x.Tag, .str x.Var, .sl (List.map z2o x.Body)]
noncomputable def z8i (a0 : Int) : Option Bool :=
 if (decide (a0 ≥ 97)) then (some (decide (a0 ≤ 122)))
 else (some false)

def z7u (r : Bool) : List XV := [xB r]

def zhm (r : Bool) : z0l := []

noncomputable def z9e (a0 : Int) : Option Bool :=
 if (decide (a0 ≥ 48)) then (some (decide (a0 ≤ 57)))
 else (some false)

def z9z (r : Bool) : List XV := [xB r]

def zix (r : Bool) : z0l := []

noncomputable def z7o (a0 : ByteArray) (x1 : Int) : Option (Sum Int (Sum Int Int)) :=
 ((if (decide (x1 < (a0.size : Int))) then (bidx a0 x1 >>= fun v1 =>
 z8i v1 >>= fun v2 =>
 if v2 then (some true)
 else (bidx a0 x1 >>= fun v3 =>
 z9e v3 >>= fun v4 =>
 some v4))
 else (some false) : Option Bool) >>= fun j2 =>
 if j2 then (some (.inl (IntKind.i64.wrap (x1 + 1))))
 else (some (.inr (.inr x1))))

noncomputable def zdd (a0 : ByteArray) : Option Int :=
 iter (z7o a0) 0 >>= Sum.elim (fun _ => none) (fun j1 =>
 some j1)

def zas (r : Int) : List XV := [xI r]

def zhn (r : Int) : z0l := []

noncomputable def zo9 (r : Int) : Tg := .r false Tryz.f92.results.toList 0 (zas r) (zhn r)

noncomputable def z7v (a0 : ByteArray) : Option Bool :=
 if (a0.toList == (ByteArray.mk #[99, 104, 97, 110]).toList) then (some true)
 else (if (a0.toList == (ByteArray.mk #[98, 108, 111, 99, 107]).toList) then (some true)
 else (if (a0.toList == (ByteArray.mk #[100, 114, 111, 112]).toList) then (some true)
 else (if (a0.toList == (ByteArray.mk #[108, 111, 115, 115, 121]).toList) then (some true)
 else (if (a0.toList == (ByteArray.mk #[102, 114, 111, 109]).toList) then (some true)
 else (if (a0.toList == (ByteArray.mk #[116, 111]).toList) then (some true)
 else (if (a0.toList == (ByteArray.mk #[114, 117, 108, 101]).toList) then (some true)
 else (if (a0.toList == (ByteArray.mk #[112, 114, 111, 99]).toList) then (some true)
 else (if (a0.toList == (ByteArray.mk #[118, 97, 114]).toList) then (some true)
 else (if (a0.toList == (ByteArray.mk #[105, 102]).toList) then (some true)
 else (if (a0.toList == (ByteArray.mk #[101, 108, 115, 101]).toList) then (some true)
 else (if (a0.toList == (ByteArray.mk #[119, 104, 105, 108, 101]).toList) then (some true)
 else (if (a0.toList == (ByteArray.mk #[115, 101, 110, 100]).toList) then (some true)
 else (if (a0.toList == (ByteArray.mk #[114, 101, 99, 118]).toList) then (some true)
 else (if (a0.toList == (ByteArray.mk #[97, 115, 115, 101, 114, 116]).toList) then (some true)
 else (if (a0.toList == (ByteArray.mk #[105, 110, 112, 117, 116]).toList) then (some true)
 else (some false))))))))))))))))

def z98 (r : Bool) : List XV := [xB r]

def zf4 (r : Bool) : z0l := []

noncomputable def z9f (a0 : ByteArray) : Option (z08 × Int) :=
 if (decide ((a0.size : Int) > 12)) then (some ((z08.mk 0 (ByteArray.mk #[]) 0 0), 3))
 else (z7v a0 >>= fun v1 =>
 if v1 then (some ((z08.mk 4 a0 0 0), 0))
 else (some ((z08.mk 1 a0 0 0), 0)))

def zc2 (r : (z08 × Int)) : List XV := [.agg (bs (z1c r.1)), xI r.2]

def ziy (r : (z08 × Int)) : z0l := []

def zkq (r : (Int × Int)) : List XV := [xI r.1, xI r.2]

def ziz (r : Int) : List XV := [xI r]

noncomputable def zcp (a0 : ByteArray) : Option Int :=
 ((if (decide ((a0.size : Int) > 1)) then (bidx a0 1 >>= fun v1 =>
 if (v1 == 61) then (bidx a0 0 >>= fun v2 =>
 zj0 (ByteArray.mk #[61, 33, 60, 62]) v2 >>= fun v3 =>
 some (decide (v3 ≥ 0)))
 else (some false))
 else (some false) : Option Bool) >>= fun j1 =>
 if j1 then (some 2)
 else (bidx a0 0 >>= fun v4 =>
 zj0 (ByteArray.mk #[123, 125, 40, 41, 59, 44, 46, 61, 60, 62, 43, 45, 42, 47, 37]) v4 >>= fun v5 =>
 if (decide (v5 ≥ 0)) then (some 1)
 else (some 0)))

def zde (r : Int) : List XV := [xI r]

def zm7 (r : Int) : z0l := []

noncomputable def za0 (a0 : ByteArray) : Option (z08 × Int) :=
 bidx a0 0 >>= fun v1 =>
 z8i v1 >>= fun v2 =>
 if v2 then (zdd a0 >>= fun v3 =>
 ssub a0 0 v3 >>= fun v4 =>
 z9f v4 >>= fun v5 =>
 some (v5.1, v5.2))
 else (bidx a0 0 >>= fun v6 =>
 z9e v6 >>= fun v7 =>
 if v7 then (zdd a0 >>= fun v8 =>
 ssub a0 0 v8 >>= fun v9 =>
 zep v9 >>= fun v10 =>
 some ((z08.mk 2 v9 v10.1 0), v10.2))
 else (zcp a0 >>= fun v11 =>
 if (v11 == 0) then (some ((z08.mk 0 (ByteArray.mk #[]) 0 0), 2))
 else (ssub a0 0 v11 >>= fun v12 =>
 some ((z08.mk 3 v12 0 0), 0))))

def zdf (r : (z08 × Int)) : List XV := [.agg (bs (z1c r.1)), xI r.2]

def zm8 (r : (z08 × Int)) : z0l := []

noncomputable def z7p (a0 : ByteArray) (x1 : (Int × (List z08))) : Option (Sum (Int × (List z08)) (Sum ((List z08) × Int × Int) (List z08))) :=
 if (decide (x1.1 < (a0.size : Int))) then (((bidx a0 x1.1 >>= fun v1 =>
 if (v1 == 32) then (some true)
 else (bidx a0 x1.1 >>= fun v2 =>
 some (v2 == 10)) : Option Bool) >>= fun j2 =>
 if j2 then (some (.inl ((IntKind.i64.wrap (x1.1 + 1)), x1.2)))
 else (ssub a0 x1.1 (a0.size : Int) >>= fun v3 =>
 za0 v3 >>= fun v4 =>
 if (v4.2 != 0) then (some (.inr (.inl ([], x1.1, v4.2))))
 else (app 40 x1.2 [(z08.mk v4.1.Kind v4.1.Text v4.1.Num x1.1)] >>= fun v5 =>
 some (.inl ((IntKind.i64.wrap (x1.1 + (v4.1.Text.size : Int))), v5))))))
 else (some (.inr (.inr x1.2)))

noncomputable def zc3 (a0 : ByteArray) : Option ((List z08) × Int × Int) :=
 iter (z7p a0) (0, []) >>= Sum.elim (fun r => some r) (fun j1 =>
 if (decide ((j1.length : Int) > 2000)) then (some ([], (a0.size : Int), 4))
 else (some (j1, 0, 0)))

def zcq (r : ((List z08) × Int × Int)) : List XV := [xL (List.map z1c r.1), xI r.2.1, xI r.2.2]

def zho (r : ((List z08) × Int × Int)) : z0l := []

noncomputable def zoa (r : ((List z08) × Int × Int)) : Tg := .r false Tryz.f19.results.toList 0 (zcq r) (zho r)

noncomputable def z26 (a0 : z00) (a1 : ByteArray) : Option Bool :=
 if (a0.f_e == 0) then (if (decide ((a0.f_l.length : Int) > 0)) then (idx a0.f_l 0 >>= fun v1 =>
 if (decide (v1.Kind ≥ 3)) then (idx a0.f_l 0 >>= fun v2 =>
 some (v2.Text.toList == a1.toList))
 else (some false))
 else (some false))
 else (some false)

def z3e (r : Bool) : List XV := [xB r]

def z3f (a0 : z00) (r : Bool) : z0l := [oB 71 (bs (z01 a0))]

noncomputable def z0a (a0 : z00) (a1 : ByteArray) : Option (z00 × Bool) :=
 z26 a0 a1 >>= fun v1 =>
 if (!v1) then (some (a0, false))
 else (lsub a0.f_l 1 (a0.f_l.length : Int) >>= fun v2 =>
 some ((z00.mk v2 a0.f_end a0.f_e a0.f_at a0.f_deep a0.f_in), true))

def z1n (r : (z00 × Bool)) : List XV := [xB r.2]

def z1o (r : (z00 × Bool)) : z0l := [oB 71 (bs (z01 r.1))]

noncomputable def z41 (a0 : z00) (a1 : Int) : Option Bool :=
 if (a0.f_e == 0) then (if (decide ((a0.f_l.length : Int) > 0)) then (idx a0.f_l 0 >>= fun v1 =>
 some (v1.Kind == a1))
 else (some false))
 else (some false)

def z67 (r : Bool) : List XV := [xB r]

def z68 (a0 : z00) (r : Bool) : z0l := [oB 71 (bs (z01 a0))]

noncomputable def z1h (a0 : z00) (a1 : Int) : Option z00 :=
 if (a0.f_e != 0) then (some a0)
 else (if (decide ((a0.f_l.length : Int) > 0)) then (idx a0.f_l 0 >>= fun v1 =>
 some (z00.mk a0.f_l a0.f_end a1 v1.At a0.f_deep a0.f_in))
 else (some (z00.mk a0.f_l a0.f_end a1 a0.f_end a0.f_deep a0.f_in)))

def z3g (r : z00) : List XV := []

def z3h (r : z00) : z0l := [oB 71 (bs (z01 r))]

noncomputable def z3v (a0 : z00) (a1 : Int) : Option (z00 × z08) :=
 z41 a0 a1 >>= fun v1 =>
 if (!v1) then (z1h a0 5 >>= fun v2 =>
 some (v2, (z08.mk 0 (ByteArray.mk #[]) 0 0)))
 else (idx a0.f_l 0 >>= fun v3 =>
 lsub a0.f_l 1 (a0.f_l.length : Int) >>= fun v4 =>
 some ((z00.mk v4 a0.f_end a0.f_e a0.f_at a0.f_deep a0.f_in), v3))

def z6s (r : (z00 × z08)) : List XV := [.agg (bs (z1c r.2))]

def z6t (r : (z00 × z08)) : z0l := [oB 71 (bs (z01 r.1))]

noncomputable def z09 (a0 : z00) : Option (z00 × ByteArray) :=
 z3v a0 1 >>= fun v1 =>
 some (v1.1, v1.2.Text)

def z17 (r : (z00 × ByteArray)) : List XV := [xS r.2]

def z18 (r : (z00 × ByteArray)) : z0l := [oB 71 (bs (z01 r.1))]

noncomputable def z0e (a0 : (List ByteArray)) (x1 : (Int × (List z08) × Int × Int × Int × Int × Int)) : Option (Sum (Int × (List z08) × Int × Int × Int × Int × Int) (Sum (z00 × Int) ((List z08) × Int × Int × Int × Int × Int))) :=
 if (decide (x1.1 < (a0.length : Int))) then (idx a0 x1.1 >>= fun v1 =>
 z0a (z00.mk x1.2.1 x1.2.2.1 x1.2.2.2.1 x1.2.2.2.2.1 x1.2.2.2.2.2.1 x1.2.2.2.2.2.2) v1 >>= fun v2 =>
 if v2.2 then (some (.inr (.inl (v2.1, x1.1))))
 else (some (.inl ((IntKind.i64.wrap (x1.1 + 1)), v2.1.f_l, v2.1.f_end, v2.1.f_e, v2.1.f_at, v2.1.f_deep, v2.1.f_in))))
 else (some (.inr (.inr (x1.2.1, x1.2.2.1, x1.2.2.2.1, x1.2.2.2.2.1, x1.2.2.2.2.2.1, x1.2.2.2.2.2.2))))

noncomputable def z1e (a0 : (List ByteArray)) (a1010 : z00) : Option (z00 × Int) :=
 iter (z0e a0) (0, a1010.f_l, a1010.f_end, a1010.f_e, a1010.f_at, a1010.f_deep, a1010.f_in) >>= Sum.elim (fun r => some r) (fun j1 =>
 some ((z00.mk j1.1 j1.2.1 j1.2.2.1 j1.2.2.2.1 j1.2.2.2.2.1 j1.2.2.2.2.2), (-1)))

def z2g (r : (z00 × Int)) : List XV := [xI r.2]

def z2h (r : (z00 × Int)) : z0l := [oB 71 (bs (z01 r.1))]

noncomputable def z4w (r : (z00 × Int)) : Tg := .r false Tryz.f97.results.toList 1 (z2g r) (z2h r)

noncomputable def z15 (a0 : z00) (a1 : (List ByteArray)) : Option (z00 × Int) :=
 z1e a1 a0 >>= fun v1 =>
 some (v1.1, v1.2)

def z4m (r : (z00 × Int)) : List XV := [xI r.2]

def z4n (r : (z00 × Int)) : z0l := [oB 71 (bs (z01 r.1))]

noncomputable def z1a (a0 : z00) : Option (z00 × Int) :=
 z3v a0 2 >>= fun v1 =>
 some (v1.1, v1.2.Num)

def z4c (r : (z00 × Int)) : List XV := [xI r.2]

def z4d (r : (z00 × Int)) : z0l := [oB 71 (bs (z01 r.1))]

noncomputable def z04 (a0 : z00) (a1 : ByteArray) : Option z00 :=
 z0a a0 a1 >>= fun v1 =>
 if (!v1.2) then (z1h v1.1 5 >>= fun v2 =>
 some v2)
 else (some v1.1)

def z0f (r : z00) : List XV := []

def z0g (r : z00) : z0l := [oB 71 (bs (z01 r))]

noncomputable def z1d (x1 : ((List z08) × Int × Int × Int × Int × Int × (List ByteArray))) : Option (Sum ((List z08) × Int × Int × Int × Int × Int × (List ByteArray)) (Sum (z00 × z27) ((List z08) × Int × Int × Int × Int × Int × (List ByteArray)))) :=
 z0a (z00.mk x1.1 x1.2.1 x1.2.2.1 x1.2.2.2.1 x1.2.2.2.2.1 x1.2.2.2.2.2.1) (ByteArray.mk #[44]) >>= fun v12 =>
 if v12.2 then (z09 v12.1 >>= fun v13 =>
 app 16 x1.2.2.2.2.2.2 [v13.2] >>= fun v14 =>
 some (.inl (v13.1.f_l, v13.1.f_end, v13.1.f_e, v13.1.f_at, v13.1.f_deep, v13.1.f_in, v14)))
 else (some (.inr (.inr (v12.1.f_l, v12.1.f_end, v12.1.f_e, v12.1.f_at, v12.1.f_deep, v12.1.f_in, x1.2.2.2.2.2.2))))

noncomputable def z42 (a0 : z00) : Option (z00 × z27) :=
 z09 a0 >>= fun v1 =>
 z15 v1.1 [(ByteArray.mk #[98, 108, 111, 99, 107]), (ByteArray.mk #[100, 114, 111, 112]), (ByteArray.mk #[108, 111, 115, 115, 121])] >>= fun v2 =>
 if (decide (v2.2 < 0)) then (z1h v2.1 5 >>= fun v3 =>
 some (v3, (z27.mk v1.2 v2.2 0 (ByteArray.mk #[]) (ByteArray.mk #[]) [])))
 else (z1a v2.1 >>= fun v4 =>
 z04 v4.1 (ByteArray.mk #[102, 114, 111, 109]) >>= fun v5 =>
 z09 v5 >>= fun v6 =>
 z04 v6.1 (ByteArray.mk #[116, 111]) >>= fun v7 =>
 z09 v7 >>= fun v8 =>
 z04 v8.1 (ByteArray.mk #[123]) >>= fun v9 =>
 z09 v9 >>= fun v10 =>
 app 16 [] [v10.2] >>= fun v11 =>
 iter (z1d) (v10.1.f_l, v10.1.f_end, v10.1.f_e, v10.1.f_at, v10.1.f_deep, v10.1.f_in, v11) >>= Sum.elim (fun _ => none) (fun j1 =>
 z04 (z00.mk j1.1 j1.2.1 j1.2.2.1 j1.2.2.2.1 j1.2.2.2.2.1 j1.2.2.2.2.2.1) (ByteArray.mk #[125]) >>= fun v15 =>
 z04 v15 (ByteArray.mk #[59]) >>= fun v16 =>
 some (v16, (z27.mk v1.2 v2.2 v4.2 v6.2 v8.2 j1.2.2.2.2.2.2))))

def z5r (r : (z00 × z27)) : List XV := [.agg (bs (z1l r.2))]

def z5s (r : (z00 × z27)) : z0l := [oB 71 (bs (z01 r.1))]

noncomputable def zaa (r : (z00 × z27)) : Tg := .r false Tryz.f21.results.toList 1 (z5r r) (z5s r)

noncomputable def z2b (x1 : ((List z08) × Int × Int × Int × Int × Int × (List z39))) : Option (Sum ((List z08) × Int × Int × Int × Int × Int × (List z39)) (Sum (z00 × z2a) ((List z08) × Int × Int × Int × Int × Int × (List z39)))) :=
 ((if (x1.2.2.1 == 0) then (z26 (z00.mk x1.1 x1.2.1 x1.2.2.1 x1.2.2.2.1 x1.2.2.2.2.1 x1.2.2.2.2.2.1) (ByteArray.mk #[125]) >>= fun v3 =>
 some (!v3))
 else (some false) : Option Bool) >>= fun j2 =>
 if j2 then (z1a (z00.mk x1.1 x1.2.1 x1.2.2.1 x1.2.2.2.1 x1.2.2.2.2.1 x1.2.2.2.2.2.1) >>= fun v4 =>
 z09 v4.1 >>= fun v5 =>
 z1a v5.1 >>= fun v6 =>
 z04 v6.1 (ByteArray.mk #[59]) >>= fun v7 =>
 app 32 x1.2.2.2.2.2.2 [(z39.mk v4.2 v5.2 v6.2)] >>= fun v8 =>
 some (.inl (v7.f_l, v7.f_end, v7.f_e, v7.f_at, v7.f_deep, v7.f_in, v8)))
 else (some (.inr (.inr (x1.1, x1.2.1, x1.2.2.1, x1.2.2.2.1, x1.2.2.2.2.1, x1.2.2.2.2.2.1, x1.2.2.2.2.2.2)))))

noncomputable def z4t (a0 : z00) : Option (z00 × z2a) :=
 z09 a0 >>= fun v1 =>
 z04 v1.1 (ByteArray.mk #[123]) >>= fun v2 =>
 iter (z2b) (v2.f_l, v2.f_end, v2.f_e, v2.f_at, v2.f_deep, v2.f_in, []) >>= Sum.elim (fun _ => none) (fun j1 =>
 z04 (z00.mk j1.1 j1.2.1 j1.2.2.1 j1.2.2.2.1 j1.2.2.2.2.1 j1.2.2.2.2.2.1) (ByteArray.mk #[125]) >>= fun v9 =>
 some (v9, (z2a.mk v1.2 j1.2.2.2.2.2.2)))

def z6u (r : (z00 × z2a)) : List XV := [.agg (bs (z24 r.2))]

def z6v (r : (z00 × z2a)) : z0l := [oB 71 (bs (z01 r.1))]

noncomputable def zc4 (r : (z00 × z2a)) : Tg := .r false Tryz.f22.results.toList 1 (z6u r) (z6v r)

noncomputable def z4h (a0 : z00) : Option (z00 × Bool) :=
 if (a0.f_deep == 24) then (z1h a0 6 >>= fun v1 =>
 some (v1, false))
 else (some ((z00.mk a0.f_l a0.f_end a0.f_e a0.f_at (IntKind.i64.wrap (a0.f_deep + 1)) a0.f_in), true))

def z6i (r : (z00 × Bool)) : List XV := [xB r.2]

def z6j (r : (z00 × Bool)) : z0l := [oB 71 (bs (z01 r.1))]

def z1p (r : (z00 × z03)) : List XV := [.agg (bs (z25 r.2))]

def z1q (r : (z00 × z03)) : z0l := [oB 71 (bs (z01 r.1))]

noncomputable def z1u (F_parse_reader_expr : z00 → Option (z00 × z03)) (F_parse_reader_chain_parse_reader_term : z00 → (List ByteArray) → Int → Option (z00 × z03)) (F_parse_reader_term : z00 → Option (z00 × z03)) (F_parse_reader_chain_parse_reader_factor : z00 → (List ByteArray) → Int → Option (z00 × z03)) (F_parse_reader_factor : z00 → Option (z00 × z03)) (F_parse_reader_negated : z00 → Option (z00 × z03)) (F_parse_reader_parens : z00 → Option (z00 × z03)) (a2 : (List ByteArray)) (a3 : Int) (x1 : ((List z08) × Int × Int × Int × Int × Int × Int × Int × ByteArray × (List z03))) : Option (Sum ((List z08) × Int × Int × Int × Int × Int × Int × Int × ByteArray × (List z03)) (Sum (z00 × z03) ((List z08) × Int × Int × Int × Int × Int × Int × Int × ByteArray × (List z03)))) :=
 if (x1.2.2.1 == 0) then (z15 (z00.mk x1.1 x1.2.1 x1.2.2.1 x1.2.2.2.1 x1.2.2.2.2.1 x1.2.2.2.2.2.1) a2 >>= fun v2 =>
 if (decide (v2.2 < 0)) then (some (.inr (.inr (v2.1.f_l, v2.1.f_end, v2.1.f_e, v2.1.f_at, v2.1.f_deep, v2.1.f_in, x1.2.2.2.2.2.2.1, x1.2.2.2.2.2.2.2.1, x1.2.2.2.2.2.2.2.2.1, x1.2.2.2.2.2.2.2.2.2))))
 else (F_parse_reader_term v2.1 >>= fun v3 =>
 some (.inl (v3.1.f_l, v3.1.f_end, v3.1.f_e, v3.1.f_at, v3.1.f_deep, v3.1.f_in, (IntKind.i64.wrap (a3 + v2.2)), 0, (ByteArray.mk #[]), [(z03.mk x1.2.2.2.2.2.2.1 x1.2.2.2.2.2.2.2.1 x1.2.2.2.2.2.2.2.2.1 x1.2.2.2.2.2.2.2.2.2), v3.2]))))
 else (some (.inr (.inr (x1.1, x1.2.1, x1.2.2.1, x1.2.2.2.1, x1.2.2.2.2.1, x1.2.2.2.2.2.1, x1.2.2.2.2.2.2.1, x1.2.2.2.2.2.2.2.1, x1.2.2.2.2.2.2.2.2.1, x1.2.2.2.2.2.2.2.2.2))))

def z0t (r : (z00 × z03)) : List XV := [.agg (bs (z25 r.2))]

def z0u (r : (z00 × z03)) : z0l := [oB 71 (bs (z01 r.1))]

noncomputable def z69 (r : (z00 × z03)) : Tg := .r false Tryz.f160.results.toList 1 (z0t r) (z0u r)

def z2i (r : (z00 × z03)) : List XV := [.agg (bs (z25 r.2))]

def z2j (r : (z00 × z03)) : z0l := [oB 71 (bs (z01 r.1))]

noncomputable def z1i (F_parse_reader_expr : z00 → Option (z00 × z03)) (F_parse_reader_chain_parse_reader_term : z00 → (List ByteArray) → Int → Option (z00 × z03)) (F_parse_reader_term : z00 → Option (z00 × z03)) (F_parse_reader_chain_parse_reader_factor : z00 → (List ByteArray) → Int → Option (z00 × z03)) (F_parse_reader_factor : z00 → Option (z00 × z03)) (F_parse_reader_negated : z00 → Option (z00 × z03)) (F_parse_reader_parens : z00 → Option (z00 × z03)) (a2 : (List ByteArray)) (a3 : Int) (x1 : ((List z08) × Int × Int × Int × Int × Int × Int × Int × ByteArray × (List z03))) : Option (Sum ((List z08) × Int × Int × Int × Int × Int × Int × Int × ByteArray × (List z03)) (Sum (z00 × z03) ((List z08) × Int × Int × Int × Int × Int × Int × Int × ByteArray × (List z03)))) :=
 if (x1.2.2.1 == 0) then (z15 (z00.mk x1.1 x1.2.1 x1.2.2.1 x1.2.2.2.1 x1.2.2.2.2.1 x1.2.2.2.2.2.1) a2 >>= fun v2 =>
 if (decide (v2.2 < 0)) then (some (.inr (.inr (v2.1.f_l, v2.1.f_end, v2.1.f_e, v2.1.f_at, v2.1.f_deep, v2.1.f_in, x1.2.2.2.2.2.2.1, x1.2.2.2.2.2.2.2.1, x1.2.2.2.2.2.2.2.2.1, x1.2.2.2.2.2.2.2.2.2))))
 else (F_parse_reader_factor v2.1 >>= fun v3 =>
 some (.inl (v3.1.f_l, v3.1.f_end, v3.1.f_e, v3.1.f_at, v3.1.f_deep, v3.1.f_in, (IntKind.i64.wrap (a3 + v2.2)), 0, (ByteArray.mk #[]), [(z03.mk x1.2.2.2.2.2.2.1 x1.2.2.2.2.2.2.2.1 x1.2.2.2.2.2.2.2.2.1 x1.2.2.2.2.2.2.2.2.2), v3.2]))))
 else (some (.inr (.inr (x1.1, x1.2.1, x1.2.2.1, x1.2.2.2.1, x1.2.2.2.2.1, x1.2.2.2.2.2.1, x1.2.2.2.2.2.2.1, x1.2.2.2.2.2.2.2.1, x1.2.2.2.2.2.2.2.2.1, x1.2.2.2.2.2.2.2.2.2))))

def z0m (r : (z00 × z03)) : List XV := [.agg (bs (z25 r.2))]

def z0n (r : (z00 × z03)) : z0l := [oB 71 (bs (z01 r.1))]

noncomputable def z5w (r : (z00 × z03)) : Tg := .r false Tryz.f160.results.toList 1 (z0m r) (z0n r)

def z22 (r : (z00 × z03)) : List XV := [.agg (bs (z25 r.2))]

def z23 (r : (z00 × z03)) : z0l := [oB 71 (bs (z01 r.1))]

def z28 (r : (z00 × z03)) : List XV := [.agg (bs (z25 r.2))]

def z29 (r : (z00 × z03)) : z0l := [oB 71 (bs (z01 r.1))]

def z2e (r : (z00 × z03)) : List XV := [.agg (bs (z25 r.2))]

def z2f (r : (z00 × z03)) : z0l := [oB 71 (bs (z01 r.1))]

mutual
noncomputable def z10 : Nat → z00 → Option (z00 × z03)
  | 0, _ => none
  | n + 1, a0 => (z07 n) a0 [(ByteArray.mk #[43]), (ByteArray.mk #[45])] 4 >>= fun v1 =>
 some (v1.1, v1.2)
noncomputable def z07 : Nat → z00 → (List ByteArray) → Int → Option (z00 × z03)
  | 0, _, _, _ => none
  | n + 1, a0, a2, a3 => (z0x n) a0 >>= fun v1 =>
 iter (z1u (z10 n) (z07 n) (z0x n) (z06 n) (z0c n) (z0y n) (z11 n) a2 a3) (v1.1.f_l, v1.1.f_end, v1.1.f_e, v1.1.f_at, v1.1.f_deep, v1.1.f_in, v1.2.Kind, v1.2.Num, v1.2.Name, v1.2.Kids) >>= Sum.elim (fun _ => none) (fun j1 =>
 some ((z00.mk j1.1 j1.2.1 j1.2.2.1 j1.2.2.2.1 j1.2.2.2.2.1 j1.2.2.2.2.2.1), (z03.mk j1.2.2.2.2.2.2.1 j1.2.2.2.2.2.2.2.1 j1.2.2.2.2.2.2.2.2.1 j1.2.2.2.2.2.2.2.2.2)))
noncomputable def z0x : Nat → z00 → Option (z00 × z03)
  | 0, _ => none
  | n + 1, a0 => (z06 n) a0 [(ByteArray.mk #[42]), (ByteArray.mk #[47]), (ByteArray.mk #[37])] 6 >>= fun v1 =>
 some (v1.1, v1.2)
noncomputable def z06 : Nat → z00 → (List ByteArray) → Int → Option (z00 × z03)
  | 0, _, _, _ => none
  | n + 1, a0, a2, a3 => (z0c n) a0 >>= fun v1 =>
 iter (z1i (z10 n) (z07 n) (z0x n) (z06 n) (z0c n) (z0y n) (z11 n) a2 a3) (v1.1.f_l, v1.1.f_end, v1.1.f_e, v1.1.f_at, v1.1.f_deep, v1.1.f_in, v1.2.Kind, v1.2.Num, v1.2.Name, v1.2.Kids) >>= Sum.elim (fun _ => none) (fun j1 =>
 some ((z00.mk j1.1 j1.2.1 j1.2.2.1 j1.2.2.2.1 j1.2.2.2.2.1 j1.2.2.2.2.2.1), (z03.mk j1.2.2.2.2.2.2.1 j1.2.2.2.2.2.2.2.1 j1.2.2.2.2.2.2.2.2.1 j1.2.2.2.2.2.2.2.2.2)))
noncomputable def z0c : Nat → z00 → Option (z00 × z03)
  | 0, _ => none
  | n + 1, a0 => z26 a0 (ByteArray.mk #[45]) >>= fun v1 =>
 if v1 then ((z0y n) a0 >>= fun v2 =>
 some (v2.1, v2.2))
 else (z26 a0 (ByteArray.mk #[40]) >>= fun v3 =>
 if v3 then ((z11 n) a0 >>= fun v4 =>
 some (v4.1, v4.2))
 else (z41 a0 2 >>= fun v5 =>
 if v5 then (z1a a0 >>= fun v6 =>
 some (v6.1, (z03.mk 1 v6.2 (ByteArray.mk #[]) [])))
 else (z09 a0 >>= fun v7 =>
 some (v7.1, (z03.mk 2 0 v7.2 [])))))
noncomputable def z0y : Nat → z00 → Option (z00 × z03)
  | 0, _ => none
  | n + 1, a0 => z4h a0 >>= fun v1 =>
 if (!v1.2) then (some (v1.1, (z03.mk 0 0 (ByteArray.mk #[]) [])))
 else (z04 v1.1 (ByteArray.mk #[45]) >>= fun v2 =>
 (z0c n) v2 >>= fun v3 =>
 some ((z00.mk v3.1.f_l v3.1.f_end v3.1.f_e v3.1.f_at (IntKind.i64.wrap (v3.1.f_deep - 1)) v3.1.f_in), (z03.mk 3 0 (ByteArray.mk #[]) [v3.2])))
noncomputable def z11 : Nat → z00 → Option (z00 × z03)
  | 0, _ => none
  | n + 1, a0 => z4h a0 >>= fun v1 =>
 if (!v1.2) then (some (v1.1, (z03.mk 0 0 (ByteArray.mk #[]) [])))
 else (z04 v1.1 (ByteArray.mk #[40]) >>= fun v2 =>
 (z10 n) v2 >>= fun v3 =>
 z04 v3.1 (ByteArray.mk #[41]) >>= fun v4 =>
 some ((z00.mk v4.f_l v4.f_end v4.f_e v4.f_at (IntKind.i64.wrap (v4.f_deep - 1)) v4.f_in), v3.2))
end

noncomputable def z3k (a0 : z00) : Option (z00 × z03) := unf fun n => z10 n a0

noncomputable def z4u (a0 : z00) : Option (z00 × z02) :=
 z09 a0 >>= fun v1 =>
 z04 v1.1 (ByteArray.mk #[46]) >>= fun v2 =>
 z09 v2 >>= fun v3 =>
 z04 v3.1 (ByteArray.mk #[40]) >>= fun v4 =>
 z3k v4 >>= fun v5 =>
 z04 v5.1 (ByteArray.mk #[41]) >>= fun v6 =>
 z04 v6 (ByteArray.mk #[59]) >>= fun v7 =>
 some (v7, (z02.mk 4 v1.2 v3.2 v5.2 (z33.mk 0 (z03.mk 0 0 (ByteArray.mk #[]) []) (z03.mk 0 0 (ByteArray.mk #[]) [])) [] [] []))

def z8s (r : (z00 × z02)) : List XV := [.agg (bs (z1m r.2))]

def z8t (r : (z00 × z02)) : z0l := [oB 71 (bs (z01 r.1))]

noncomputable def z3l (a0 : z00) : Option (z00 × z33) :=
 z04 a0 (ByteArray.mk #[40]) >>= fun v1 =>
 z3k v1 >>= fun v2 =>
 z15 v2.1 [(ByteArray.mk #[61, 61]), (ByteArray.mk #[33, 61]), (ByteArray.mk #[60]), (ByteArray.mk #[60, 61]), (ByteArray.mk #[62]), (ByteArray.mk #[62, 61])] >>= fun v3 =>
 if (decide (v3.2 < 0)) then (z1h v3.1 5 >>= fun v4 =>
 some (v4, (z33.mk 0 v2.2 (z03.mk 0 0 (ByteArray.mk #[]) []))))
 else (z3k v3.1 >>= fun v5 =>
 z04 v5.1 (ByteArray.mk #[41]) >>= fun v6 =>
 some (v6, (z33.mk (IntKind.i64.wrap (1 + v3.2)) v2.2 v5.2)))

def z5j (r : (z00 × z33)) : List XV := [.agg (bs (z8h r.2))]

def z5k (r : (z00 × z33)) : z0l := [oB 71 (bs (z01 r.1))]

noncomputable def z47 (a0 : z00) : Option (z00 × z02) :=
 z3l a0 >>= fun v1 =>
 z04 v1.1 (ByteArray.mk #[59]) >>= fun v2 =>
 some (v2, (z02.mk 6 (ByteArray.mk #[]) (ByteArray.mk #[]) (z03.mk 0 0 (ByteArray.mk #[]) []) v1.2 [] [] []))

def z7w (r : (z00 × z02)) : List XV := [.agg (bs (z1m r.2))]

def z7x (r : (z00 × z02)) : z0l := [oB 71 (bs (z01 r.1))]

noncomputable def z4i (a0 : z00) : Option (z00 × z02) :=
 z09 a0 >>= fun v1 =>
 z04 v1.1 (ByteArray.mk #[59]) >>= fun v2 =>
 some (v2, (z02.mk 7 v1.2 (ByteArray.mk #[]) (z03.mk 0 0 (ByteArray.mk #[]) []) (z33.mk 0 (z03.mk 0 0 (ByteArray.mk #[]) []) (z03.mk 0 0 (ByteArray.mk #[]) [])) [] [] []))

def z8a (r : (z00 × z02)) : List XV := [.agg (bs (z1m r.2))]

def z8b (r : (z00 × z02)) : z0l := [oB 71 (bs (z01 r.1))]

noncomputable def z48 (a0 : z00) : Option (z00 × z02) :=
 z09 a0 >>= fun v1 =>
 z04 v1.1 (ByteArray.mk #[61]) >>= fun v2 =>
 z3k v2 >>= fun v3 =>
 z04 v3.1 (ByteArray.mk #[59]) >>= fun v4 =>
 some (v4, (z02.mk 1 v1.2 (ByteArray.mk #[]) v3.2 (z33.mk 0 (z03.mk 0 0 (ByteArray.mk #[]) []) (z03.mk 0 0 (ByteArray.mk #[]) [])) [] [] []))

def z7y (r : (z00 × z02)) : List XV := [.agg (bs (z1m r.2))]

def z7z (r : (z00 × z02)) : z0l := [oB 71 (bs (z01 r.1))]

noncomputable def z57 (F_parse_reader_stmts : z00 → Option (z00 × (List z02))) (F_parse_reader_stmt : z00 → Option (z00 × z02 × Bool)) (F_parse_reader_conditional : z00 → Option (z00 × z02)) (F_parse_reader_loop : z00 → Option (z00 × z02)) (F_parse_reader_recv : z00 → Option (z00 × z02)) (F_parse_reader_block : z00 → Option (z00 × (List z02))) (F_parse_reader_arm : z00 → Option (z00 × z0r)) (x1 : ((List z08) × Int × Int × Int × Int × Int × (List z02))) : Option (Sum ((List z08) × Int × Int × Int × Int × Int × (List z02)) (Sum (z00 × (List z02)) Unit)) :=
 F_parse_reader_stmt (z00.mk x1.1 x1.2.1 x1.2.2.1 x1.2.2.2.1 x1.2.2.2.2.1 x1.2.2.2.2.2.1) >>= fun v1 =>
 if (!v1.2.2) then (some (.inr (.inl (v1.1, x1.2.2.2.2.2.2))))
 else (app 288 x1.2.2.2.2.2.2 [v1.2.1] >>= fun v2 =>
 some (.inl (v1.1.f_l, v1.1.f_end, v1.1.f_e, v1.1.f_at, v1.1.f_deep, v1.1.f_in, v2)))

def z1w (r : (z00 × (List z02))) : List XV := [xL (List.map z0s r.2)]

def z1x (r : (z00 × (List z02))) : z0l := [oB 71 (bs (z01 r.1))]

noncomputable def zbi (r : (z00 × (List z02))) : Tg := .r false Tryz.f61.results.toList 1 (z1w r) (z1x r)

def z2v (r : (z00 × z02 × Bool)) : List XV := [.agg (bs (z1m r.2.1)), xB r.2.2]

def z2w (r : (z00 × z02 × Bool)) : z0l := [oB 71 (bs (z01 r.1))]

def z1s (r : (z00 × z02)) : List XV := [.agg (bs (z1m r.2))]

def z1t (r : (z00 × z02)) : z0l := [oB 71 (bs (z01 r.1))]

def z2x (r : (z00 × z02)) : List XV := [.agg (bs (z1m r.2))]

def z2y (r : (z00 × z02)) : z0l := [oB 71 (bs (z01 r.1))]

noncomputable def z43 (F_parse_reader_stmts : z00 → Option (z00 × (List z02))) (F_parse_reader_stmt : z00 → Option (z00 × z02 × Bool)) (F_parse_reader_conditional : z00 → Option (z00 × z02)) (F_parse_reader_loop : z00 → Option (z00 × z02)) (F_parse_reader_recv : z00 → Option (z00 × z02)) (F_parse_reader_block : z00 → Option (z00 × (List z02))) (F_parse_reader_arm : z00 → Option (z00 × z0r)) (x1 : ((List z08) × Int × Int × Int × Int × Int × (List z0r))) : Option (Sum ((List z08) × Int × Int × Int × Int × Int × (List z0r)) (Sum (z00 × z02) ((List z08) × Int × Int × Int × Int × Int × (List z0r)))) :=
 ((if (x1.2.2.1 == 0) then (z26 (z00.mk x1.1 x1.2.1 x1.2.2.1 x1.2.2.2.1 x1.2.2.2.2.1 x1.2.2.2.2.2.1) (ByteArray.mk #[125]) >>= fun v5 =>
 some (!v5))
 else (some false) : Option Bool) >>= fun j2 =>
 if j2 then (F_parse_reader_arm (z00.mk x1.1 x1.2.1 x1.2.2.1 x1.2.2.2.1 x1.2.2.2.2.1 x1.2.2.2.2.2.1) >>= fun v6 =>
 app 56 x1.2.2.2.2.2.2 [v6.2] >>= fun v7 =>
 some (.inl (v6.1.f_l, v6.1.f_end, v6.1.f_e, v6.1.f_at, v6.1.f_deep, v6.1.f_in, v7)))
 else (some (.inr (.inr (x1.1, x1.2.1, x1.2.2.1, x1.2.2.2.1, x1.2.2.2.2.1, x1.2.2.2.2.2.1, x1.2.2.2.2.2.2)))))

def z2k (r : (z00 × z02)) : List XV := [.agg (bs (z1m r.2))]

def z2l (r : (z00 × z02)) : z0l := [oB 71 (bs (z01 r.1))]

noncomputable def zc5 (r : (z00 × z02)) : Tg := .r false Tryz.f119.results.toList 1 (z2k r) (z2l r)

def z1y (r : (z00 × (List z02))) : List XV := [xL (List.map z0s r.2)]

def z1z (r : (z00 × (List z02))) : z0l := [oB 71 (bs (z01 r.1))]

def z2s (r : (z00 × z0r)) : List XV := [.agg (bs (z4b r.2))]

def z2t (r : (z00 × z0r)) : z0l := [oB 71 (bs (z01 r.1))]

mutual
noncomputable def z0v : Nat → z00 → Option (z00 × (List z02))
  | 0, _ => none
  | n + 1, a0 => iter (z57 (z0v n) (z0h n) (z0o n) (z19 n) (z16 n) (z0d n) (z0z n)) (a0.f_l, a0.f_end, a0.f_e, a0.f_at, a0.f_deep, a0.f_in, []) >>= Sum.elim (fun r => some r) (fun j1 =>
 none)
noncomputable def z0h : Nat → z00 → Option (z00 × z02 × Bool)
  | 0, _ => none
  | n + 1, a0 => z0a a0 (ByteArray.mk #[105, 102]) >>= fun v1 =>
 if v1.2 then ((z0o n) v1.1 >>= fun v2 =>
 some (v2.1, v2.2, true))
 else (z0a v1.1 (ByteArray.mk #[119, 104, 105, 108, 101]) >>= fun v3 =>
 if v3.2 then ((z19 n) v3.1 >>= fun v4 =>
 some (v4.1, v4.2, true))
 else (z0a v3.1 (ByteArray.mk #[115, 101, 110, 100]) >>= fun v5 =>
 if v5.2 then (z4u v5.1 >>= fun v6 =>
 some (v6.1, v6.2, true))
 else (z0a v5.1 (ByteArray.mk #[114, 101, 99, 118]) >>= fun v7 =>
 if v7.2 then ((z16 n) v7.1 >>= fun v8 =>
 some (v8.1, v8.2, true))
 else (z0a v7.1 (ByteArray.mk #[97, 115, 115, 101, 114, 116]) >>= fun v9 =>
 if v9.2 then (z47 v9.1 >>= fun v10 =>
 some (v10.1, v10.2, true))
 else (z0a v9.1 (ByteArray.mk #[105, 110, 112, 117, 116]) >>= fun v11 =>
 if v11.2 then (z4i v11.1 >>= fun v12 =>
 some (v12.1, v12.2, true))
 else (z41 v11.1 1 >>= fun v13 =>
 if v13 then (z48 v11.1 >>= fun v14 =>
 some (v14.1, v14.2, true))
 else (some (v11.1, (z02.mk 0 (ByteArray.mk #[]) (ByteArray.mk #[]) (z03.mk 0 0 (ByteArray.mk #[]) []) (z33.mk 0 (z03.mk 0 0 (ByteArray.mk #[]) []) (z03.mk 0 0 (ByteArray.mk #[]) [])) [] [] []), false))))))))
noncomputable def z0o : Nat → z00 → Option (z00 × z02)
  | 0, _ => none
  | n + 1, a0 => z3l a0 >>= fun v1 =>
 (z0d n) v1.1 >>= fun v2 =>
 z0a v2.1 (ByteArray.mk #[101, 108, 115, 101]) >>= fun v3 =>
 if v3.2 then ((z0d n) v3.1 >>= fun v4 =>
 some (v4.1, (z02.mk 2 (ByteArray.mk #[]) (ByteArray.mk #[]) (z03.mk 0 0 (ByteArray.mk #[]) []) v1.2 v2.2 v4.2 [])))
 else (some (v3.1, (z02.mk 2 (ByteArray.mk #[]) (ByteArray.mk #[]) (z03.mk 0 0 (ByteArray.mk #[]) []) v1.2 v2.2 [] [])))
noncomputable def z19 : Nat → z00 → Option (z00 × z02)
  | 0, _ => none
  | n + 1, a0 => z3l a0 >>= fun v1 =>
 (z0d n) v1.1 >>= fun v2 =>
 some (v2.1, (z02.mk 3 (ByteArray.mk #[]) (ByteArray.mk #[]) (z03.mk 0 0 (ByteArray.mk #[]) []) v1.2 v2.2 [] []))
noncomputable def z16 : Nat → z00 → Option (z00 × z02)
  | 0, _ => none
  | n + 1, a0 => z09 a0 >>= fun v1 =>
 z04 v1.1 (ByteArray.mk #[123]) >>= fun v2 =>
 (z0z n) v2 >>= fun v3 =>
 app 56 [] [v3.2] >>= fun v4 =>
 iter (z43 (z0v n) (z0h n) (z0o n) (z19 n) (z16 n) (z0d n) (z0z n)) (v3.1.f_l, v3.1.f_end, v3.1.f_e, v3.1.f_at, v3.1.f_deep, v3.1.f_in, v4) >>= Sum.elim (fun _ => none) (fun j1 =>
 z04 (z00.mk j1.1 j1.2.1 j1.2.2.1 j1.2.2.2.1 j1.2.2.2.2.1 j1.2.2.2.2.2.1) (ByteArray.mk #[125]) >>= fun v8 =>
 some (v8, (z02.mk 5 v1.2 (ByteArray.mk #[]) (z03.mk 0 0 (ByteArray.mk #[]) []) (z33.mk 0 (z03.mk 0 0 (ByteArray.mk #[]) []) (z03.mk 0 0 (ByteArray.mk #[]) [])) [] [] j1.2.2.2.2.2.2)))
noncomputable def z0d : Nat → z00 → Option (z00 × (List z02))
  | 0, _ => none
  | n + 1, a0 => ((z26 a0 (ByteArray.mk #[123]) >>= fun v1 =>
 if v1 then (some (a0.f_in == 24))
 else (some false) : Option Bool) >>= fun j1 =>
 if j1 then (z1h a0 6 >>= fun v2 =>
 some (v2, []))
 else (z04 a0 (ByteArray.mk #[123]) >>= fun v3 =>
 (z0v n) (z00.mk v3.f_l v3.f_end v3.f_e v3.f_at v3.f_deep (IntKind.i64.wrap (v3.f_in + 1))) >>= fun v4 =>
 z04 (z00.mk v4.1.f_l v4.1.f_end v4.1.f_e v4.1.f_at v4.1.f_deep (IntKind.i64.wrap (v4.1.f_in - 1))) (ByteArray.mk #[125]) >>= fun v5 =>
 some (v5, v4.2)))
noncomputable def z0z : Nat → z00 → Option (z00 × z0r)
  | 0, _ => none
  | n + 1, a0 => z09 a0 >>= fun v1 =>
 z04 v1.1 (ByteArray.mk #[40]) >>= fun v2 =>
 z09 v2 >>= fun v3 =>
 z04 v3.1 (ByteArray.mk #[41]) >>= fun v4 =>
 (z0d n) v4 >>= fun v5 =>
 some (v5.1, (z0r.mk v1.2 v3.2 v5.2))
end

noncomputable def z4j (a0 : z00) : Option (z00 × (List z02)) := unf fun n => z0v n a0

noncomputable def z2c (x1 : ((List z08) × Int × Int × Int × Int × Int × (List ByteArray))) : Option (Sum ((List z08) × Int × Int × Int × Int × Int × (List ByteArray)) (Sum (z00 × z2d) ((List z08) × Int × Int × Int × Int × Int × (List ByteArray)))) :=
 z0a (z00.mk x1.1 x1.2.1 x1.2.2.1 x1.2.2.2.1 x1.2.2.2.2.1 x1.2.2.2.2.2.1) (ByteArray.mk #[118, 97, 114]) >>= fun v3 =>
 if v3.2 then (z09 v3.1 >>= fun v4 =>
 app 16 x1.2.2.2.2.2.2 [v4.2] >>= fun v5 =>
 z04 v4.1 (ByteArray.mk #[59]) >>= fun v6 =>
 some (.inl (v6.f_l, v6.f_end, v6.f_e, v6.f_at, v6.f_deep, v6.f_in, v5)))
 else (some (.inr (.inr (v3.1.f_l, v3.1.f_end, v3.1.f_e, v3.1.f_at, v3.1.f_deep, v3.1.f_in, x1.2.2.2.2.2.2))))

noncomputable def z4v (a0 : z00) : Option (z00 × z2d) :=
 z09 a0 >>= fun v1 =>
 z04 v1.1 (ByteArray.mk #[123]) >>= fun v2 =>
 iter (z2c) (v2.f_l, v2.f_end, v2.f_e, v2.f_at, v2.f_deep, v2.f_in, []) >>= Sum.elim (fun _ => none) (fun j1 =>
 z4j (z00.mk j1.1 j1.2.1 j1.2.2.1 j1.2.2.2.1 j1.2.2.2.2.1 j1.2.2.2.2.2.1) >>= fun v7 =>
 z04 v7.1 (ByteArray.mk #[125]) >>= fun v8 =>
 some (v8, (z2d.mk v1.2 j1.2.2.2.2.2.2 v7.2)))

def z6w (r : (z00 × z2d)) : List XV := [.agg (bs (z0j r.2))]

def z6x (r : (z00 × z2d)) : z0l := [oB 71 (bs (z01 r.1))]

noncomputable def zc6 (r : (z00 × z2d)) : Tg := .r false Tryz.f23.results.toList 1 (z6w r) (z6x r)

noncomputable def z49 (x1 : ((List z08) × Int × Int × Int × Int × Int × (List z27))) : Option (Sum ((List z08) × Int × Int × Int × Int × Int × (List z27)) (Sum (z1g × Int × Int) ((List z08) × Int × Int × Int × Int × Int × (List z27)))) :=
 z0a (z00.mk x1.1 x1.2.1 x1.2.2.1 x1.2.2.2.1 x1.2.2.2.2.1 x1.2.2.2.2.2.1) (ByteArray.mk #[99, 104, 97, 110]) >>= fun v2 =>
 if v2.2 then (z42 v2.1 >>= fun v3 =>
 app 88 x1.2.2.2.2.2.2 [v3.2] >>= fun v4 =>
 some (.inl (v3.1.f_l, v3.1.f_end, v3.1.f_e, v3.1.f_at, v3.1.f_deep, v3.1.f_in, v4)))
 else (some (.inr (.inr (v2.1.f_l, v2.1.f_end, v2.1.f_e, v2.1.f_at, v2.1.f_deep, v2.1.f_in, x1.2.2.2.2.2.2))))

noncomputable def z4a (x2 : ((List z08) × Int × Int × Int × Int × Int × (List z2a))) : Option (Sum ((List z08) × Int × Int × Int × Int × Int × (List z2a)) (Sum (z1g × Int × Int) ((List z08) × Int × Int × Int × Int × Int × (List z2a)))) :=
 z0a (z00.mk x2.1 x2.2.1 x2.2.2.1 x2.2.2.2.1 x2.2.2.2.2.1 x2.2.2.2.2.2.1) (ByteArray.mk #[114, 117, 108, 101]) >>= fun v5 =>
 if v5.2 then (z4t v5.1 >>= fun v6 =>
 app 40 x2.2.2.2.2.2.2 [v6.2] >>= fun v7 =>
 some (.inl (v6.1.f_l, v6.1.f_end, v6.1.f_e, v6.1.f_at, v6.1.f_deep, v6.1.f_in, v7)))
 else (some (.inr (.inr (v5.1.f_l, v5.1.f_end, v5.1.f_e, v5.1.f_at, v5.1.f_deep, v5.1.f_in, x2.2.2.2.2.2.2))))

noncomputable def z3x (x3 : ((List z08) × Int × Int × Int × Int × Int × (List z2d))) : Option (Sum ((List z08) × Int × Int × Int × Int × Int × (List z2d)) (Sum (z1g × Int × Int) ((List z08) × Int × Int × Int × Int × Int × (List z2d)))) :=
 z0a (z00.mk x3.1 x3.2.1 x3.2.2.1 x3.2.2.2.1 x3.2.2.2.2.1 x3.2.2.2.2.2.1) (ByteArray.mk #[112, 114, 111, 99]) >>= fun v8 =>
 if v8.2 then (z4v v8.1 >>= fun v9 =>
 app 64 x3.2.2.2.2.2.2 [v9.2] >>= fun v10 =>
 some (.inl (v9.1.f_l, v9.1.f_end, v9.1.f_e, v9.1.f_at, v9.1.f_deep, v9.1.f_in, v10)))
 else (some (.inr (.inr (v8.1.f_l, v8.1.f_end, v8.1.f_e, v8.1.f_at, v8.1.f_deep, v8.1.f_in, x3.2.2.2.2.2.2))))

noncomputable def z5b (a0 : ByteArray) : Option (z1g × Int × Int) :=
 zc3 a0 >>= fun v1 =>
 if (v1.2.2 != 0) then (some ((z1g.mk [] [] []), v1.2.1, v1.2.2))
 else (iter (z49) (v1.1, (a0.size : Int), 0, 0, 0, 0, []) >>= Sum.elim (fun _ => none) (fun j1 =>
 iter (z4a) (j1.1, j1.2.1, j1.2.2.1, j1.2.2.2.1, j1.2.2.2.2.1, j1.2.2.2.2.2.1, []) >>= Sum.elim (fun _ => none) (fun j2 =>
 iter (z3x) (j2.1, j2.2.1, j2.2.2.1, j2.2.2.2.1, j2.2.2.2.2.1, j2.2.2.2.2.2.1, []) >>= Sum.elim (fun _ => none) (fun j3 =>
 if (decide ((j3.1.length : Int) > 0)) then (z1h (z00.mk j3.1 j3.2.1 j3.2.2.1 j3.2.2.2.1 j3.2.2.2.2.1 j3.2.2.2.2.2.1) 5 >>= fun v11 =>
 if (v11.f_e != 0) then (some ((z1g.mk [] [] []), v11.f_at, v11.f_e))
 else (some ((z1g.mk j1.2.2.2.2.2.2 j2.2.2.2.2.2.2 j3.2.2.2.2.2.2), 0, 0)))
 else (if (j3.2.2.1 != 0) then (some ((z1g.mk [] [] []), j3.2.2.2.1, j3.2.2.1))
 else (some ((z1g.mk j1.2.2.2.2.2.2 j2.2.2.2.2.2.2 j3.2.2.2.2.2.2), 0, 0)))))))

def z5l (r : (z1g × Int × Int)) : List XV := [.agg (bs (z74 r.1)), xI r.2.1, xI r.2.2]

def zcr (r : (z1g × Int × Int)) : z0l := []

noncomputable def za1 (r : (z1g × Int × Int)) : Tg := .r false Tryz.f9.results.toList 0 (z5l r) (zcr r)

noncomputable def z8j : Option Bool :=
 z5b (ByteArray.mk #[112, 114, 111, 99, 32, 112, 32, 123, 32, 120, 32, 61, 32, 49, 32, 43, 32, 50, 32, 42, 32, 51, 32, 59, 32, 125]) >>= fun v1 =>
 z5b (ByteArray.mk #[112, 114, 111, 99, 32, 112]) >>= fun v2 =>
 ((if (v1.2.2 == 0) then (if ((v1.1.Procs.length : Int) == 1) then (idx v1.1.Procs 0 >>= fun v3 =>
 if ((v3.Body.length : Int) == 1) then (idx v1.1.Procs 0 >>= fun v4 =>
 idx v4.Body 0 >>= fun v5 =>
 if (v5.E.Kind == 4) then (idx v1.1.Procs 0 >>= fun v6 =>
 idx v6.Body 0 >>= fun v7 =>
 if ((v7.E.Kids.length : Int) == 2) then (idx v1.1.Procs 0 >>= fun v8 =>
 idx v8.Body 0 >>= fun v9 =>
 idx v9.E.Kids 1 >>= fun v10 =>
 if (v10.Kind == 6) then (if (v2.2.2 == 5) then (some (v2.2.1 == 6))
 else (some false))
 else (some false))
 else (some false))
 else (some false))
 else (some false))
 else (some false))
 else (some false) : Option Bool) >>= fun j1 =>
 some j1)

def z5i (r : Bool) : List XV := [xB r]

def zhp (r : Bool) : z0l := []

noncomputable def z7q (F_l02_Expr : z05 → Option z03) (a0 : z05) (x1 : (Int × (List z03))) : Option (Sum (Int × (List z03)) (Sum z03 (List z03))) :=
 if (decide (x1.1 < (a0.Kids.length : Int))) then (idx a0.Kids x1.1 >>= fun v1 =>
 F_l02_Expr v1 >>= fun v2 =>
 app 56 x1.2 [v2] >>= fun v3 =>
 some (.inl ((IntKind.i64.wrap (x1.1 + 1)), v3)))
 else (some (.inr (.inr x1.2)))

def z5o (r : z03) : List XV := [.agg (bs (z25 r))]

def zfq (r : z03) : z0l := []

noncomputable def zm9 (r : z03) : Tg := .r false Tryz.f73.results.toList 0 (z5o r) (zfq r)

noncomputable def z6m : Nat → z05 → Option z03
  | 0, _ => none
  | n + 1, a0 => iter (z7q (z6m n) a0) (0, []) >>= Sum.elim (fun _ => none) (fun j1 =>
 some (z03.mk a0.Kind a0.Num a0.Name j1))

noncomputable def zcs (a0 : z05) : Option z03 := unf fun n => z6m n a0

noncomputable def zct (a0 : z4f) : Option z33 :=
 zcs a0.L >>= fun v1 =>
 zcs a0.R >>= fun v2 =>
 some (z33.mk a0.Op v1 v2)

def zdg (r : z33) : List XV := [.agg (bs (z8h r))]

def zma (r : z33) : z0l := []

noncomputable def z77 (F_l02_Stmts : (List z0k) → Option (List z02)) (v1 : z0k) (x2 : (Int × (List z0r))) : Option (Sum (Int × (List z0r)) (Sum (List z02) (List z0r))) :=
 if (decide (x2.1 < (v1.Arms.length : Int))) then (idx v1.Arms x2.1 >>= fun v6 =>
 F_l02_Stmts v6.Body >>= fun v7 =>
 app 56 x2.2 [(z0r.mk v6.Tag v6.Var v7)] >>= fun v8 =>
 some (.inl ((IntKind.i64.wrap (x2.1 + 1)), v8)))
 else (some (.inr (.inr x2.2)))

noncomputable def z78 (F_l02_Stmts : (List z0k) → Option (List z02)) (a0 : (List z0k)) (x1 : (Int × (List z02))) : Option (Sum (Int × (List z02)) (Sum (List z02) (List z02))) :=
 if (decide (x1.1 < (a0.length : Int))) then (idx a0 x1.1 >>= fun v1 =>
 zcs v1.E >>= fun v2 =>
 zct v1.C >>= fun v3 =>
 F_l02_Stmts v1.Body >>= fun v4 =>
 F_l02_Stmts v1.Else >>= fun v5 =>
 iter (z77 F_l02_Stmts v1) (0, []) >>= Sum.elim (fun _ => none) (fun j2 =>
 app 288 x1.2 [(z02.mk v1.Kind v1.Name v1.Tag v2 v3 v4 v5 j2)] >>= fun v9 =>
 some (.inl ((IntKind.i64.wrap (x1.1 + 1)), v9))))
 else (some (.inr (.inr x1.2)))

def z5c (r : (List z02)) : List XV := [xL (List.map z0s r)]

def zeq (r : (List z02)) : z0l := []

noncomputable def zer (r : (List z02)) : Tg := .r false Tryz.f43.results.toList 0 (z5c r) (zeq r)

noncomputable def z54 : Nat → (List z0k) → Option (List z02)
  | 0, _ => none
  | n + 1, a0 => iter (z78 (z54 n) a0) (0, []) >>= Sum.elim (fun _ => none) (fun j1 =>
 some j1)

noncomputable def zes (a0 : (List z0k)) : Option (List z02) := unf fun n => z54 n a0

noncomputable def z6a (a0 : z38) (x1 : (Int × (List z27))) : Option (Sum (Int × (List z27)) (Sum z1g (List z27))) :=
 if (decide (x1.1 < (a0.Chans.length : Int))) then (idx a0.Chans x1.1 >>= fun v1 =>
 app 16 [] v1.Tags >>= fun v2 =>
 app 88 x1.2 [(z27.mk v1.Name v1.Kind v1.Size v1.From v1.To v2)] >>= fun v3 =>
 some (.inl ((IntKind.i64.wrap (x1.1 + 1)), v3)))
 else (some (.inr (.inr x1.2)))

noncomputable def z6b (a0 : z38) (x2 : (Int × (List z2a))) (x3 : (Int × (List z39))) : Option (Sum (Int × (List z39)) (Sum z1g (List z39))) :=
 idx a0.Rules x2.1 >>= fun v5 =>
 if (decide (x3.1 < (v5.Moves.length : Int))) then (idx a0.Rules x2.1 >>= fun v6 =>
 idx v6.Moves x3.1 >>= fun v7 =>
 app 32 x3.2 [(z39.mk v7.From v7.Tag v7.To)] >>= fun v8 =>
 some (.inl ((IntKind.i64.wrap (x3.1 + 1)), v8)))
 else (some (.inr (.inr x3.2)))

noncomputable def z6c (a0 : z38) (x2 : (Int × (List z2a))) : Option (Sum (Int × (List z2a)) (Sum z1g (List z2a))) :=
 if (decide (x2.1 < (a0.Rules.length : Int))) then (idx a0.Rules x2.1 >>= fun v4 =>
 iter (z6b a0 x2) (0, []) >>= Sum.elim (fun _ => none) (fun j3 =>
 app 40 x2.2 [(z2a.mk v4.Chan j3)] >>= fun v9 =>
 some (.inl ((IntKind.i64.wrap (x2.1 + 1)), v9))))
 else (some (.inr (.inr x2.2)))

noncomputable def z6d (a0 : z38) (x4 : (Int × (List z2d))) : Option (Sum (Int × (List z2d)) (Sum z1g (List z2d))) :=
 if (decide (x4.1 < (a0.Procs.length : Int))) then (idx a0.Procs x4.1 >>= fun v10 =>
 app 16 [] v10.Vars >>= fun v11 =>
 zes v10.Body >>= fun v12 =>
 app 64 x4.2 [(z2d.mk v10.Name v11 v12)] >>= fun v13 =>
 some (.inl ((IntKind.i64.wrap (x4.1 + 1)), v13)))
 else (some (.inr (.inr x4.2)))

noncomputable def z6e (a0 : z38) : Option z1g :=
 iter (z6a a0) (0, []) >>= Sum.elim (fun _ => none) (fun j1 =>
 iter (z6c a0) (0, []) >>= Sum.elim (fun _ => none) (fun j2 =>
 iter (z6d a0) (0, []) >>= Sum.elim (fun _ => none) (fun j4 =>
 some (z1g.mk j1 j2 j4))))

def z81 (r : z1g) : List XV := [.agg (bs (z74 r))]

def zdp (r : z1g) : z0l := []

noncomputable def z93 (r : z1g) : Tg := .r false Tryz.f13.results.toList 0 (z81 r) (zdp r)

noncomputable def z79 (a0 : (List z39)) (a1 : (List z39)) (x1 : Int) : Option (Sum Int (Sum Bool Unit)) :=
 if (decide (x1 < (a0.length : Int))) then (idx a0 x1 >>= fun v1 =>
 idx a1 x1 >>= fun v2 =>
 if (!((v1.From : Int) == v2.From && (v1.Tag.toList == v2.Tag.toList && ((v1.To : Int) == v2.To && true)))) then (some (.inr (.inl false)))
 else (some (.inl (IntKind.i64.wrap (x1 + 1)))))
 else (some (.inr (.inr ())))

noncomputable def zat (a0 : (List z39)) (a1 : (List z39)) : Option Bool :=
 if ((a0.length : Int) != (a1.length : Int)) then (some false)
 else (iter (z79 a0 a1) 0 >>= Sum.elim (fun r => some r) (fun j1 =>
 some true))

def za2 (r : Bool) : List XV := [xB r]

def zet (r : Bool) : z0l := []

noncomputable def zj1 (r : Bool) : Tg := .r false Tryz.f35.results.toList 0 (za2 r) (zet r)

noncomputable def zbe (a0 : z2a) (a1 : z2a) : Option Bool :=
 if (a0.Chan.toList == a1.Chan.toList) then (zat a0.Moves a1.Moves >>= fun v1 =>
 some v1)
 else (some false)

def zau (r : Bool) : List XV := [xB r]

def zhq (r : Bool) : z0l := []

noncomputable def z3m (a0 : (List z2a)) (a1 : (List z2a)) (x1 : Int) : Option (Sum Int (Sum Bool Unit)) :=
 if (decide (x1 < (a0.length : Int))) then (idx a0 x1 >>= fun v1 =>
 idx a1 x1 >>= fun v2 =>
 zbe v1 v2 >>= fun v3 =>
 if (!v3) then (some (.inr (.inl false)))
 else (some (.inl (IntKind.i64.wrap (x1 + 1)))))
 else (some (.inr (.inr ())))

noncomputable def z4o (a0 : (List z2a)) (a1 : (List z2a)) : Option Bool :=
 if ((a0.length : Int) != (a1.length : Int)) then (some false)
 else (iter (z3m a0 a1) 0 >>= Sum.elim (fun r => some r) (fun j1 =>
 some true))

def z50 (r : Bool) : List XV := [xB r]

def z7j (r : Bool) : z0l := []

noncomputable def zab (r : Bool) : Tg := .r false Tryz.f33.results.toList 0 (z50 r) (z7j r)

noncomputable def z2p (a0 : (List ByteArray)) (a1 : (List ByteArray)) (x1 : Int) : Option (Sum Int (Sum Bool Unit)) :=
 if (decide (x1 < (a0.length : Int))) then (idx a0 x1 >>= fun v1 =>
 idx a1 x1 >>= fun v2 =>
 if (!(v1.toList == v2.toList)) then (some (.inr (.inl false)))
 else (some (.inl (IntKind.i64.wrap (x1 + 1)))))
 else (some (.inr (.inr ())))

noncomputable def z31 (a0 : (List ByteArray)) (a1 : (List ByteArray)) : Option Bool :=
 if ((a0.length : Int) != (a1.length : Int)) then (some false)
 else (iter (z2p a0 a1) 0 >>= Sum.elim (fun r => some r) (fun j1 =>
 some true))

def z2q (r : Bool) : List XV := [xB r]

def z5n (r : Bool) : z0l := []

noncomputable def z86 (r : Bool) : Tg := .r false Tryz.f38.results.toList 0 (z2q r) (z5n r)

def z3j (r : Bool) : List XV := [xB r]

def zf5 (r : Bool) : z0l := []

noncomputable def z3a (F_ast_sameExpr : z03 → z03 → Option Bool) (F_ast_Expr__ast_sameExpr : (List z03) → (List z03) → Option Bool) (a0 : (List z03)) (a1 : (List z03)) (x1 : Int) : Option (Sum Int (Sum Bool Unit)) :=
 if (decide (x1 < (a0.length : Int))) then (idx a0 x1 >>= fun v1 =>
 idx a1 x1 >>= fun v2 =>
 F_ast_sameExpr v1 v2 >>= fun v3 =>
 if (!v3) then (some (.inr (.inl false)))
 else (some (.inl (IntKind.i64.wrap (x1 + 1)))))
 else (some (.inr (.inr ())))

def z32 (r : Bool) : List XV := [xB r]

def z7a (r : Bool) : z0l := []

noncomputable def z9g (r : Bool) : Tg := .r false Tryz.f101.results.toList 0 (z32 r) (z7a r)

mutual
noncomputable def z3n : Nat → z03 → z03 → Option Bool
  | 0, _, _ => none
  | n + 1, a0, a1 => ((if (a0.Kind != a1.Kind) then (some true)
 else (if (a0.Kind == 1) then (if (a0.Num != a1.Num) then (some true)
 else (if (a0.Kind == 2) then (some (!(a0.Name.toList == a1.Name.toList)))
 else (some false)))
 else (if (a0.Kind == 2) then (some (!(a0.Name.toList == a1.Name.toList)))
 else (some false))) : Option Bool) >>= fun j1 =>
 if j1 then (some false)
 else ((z1k n) a0.Kids a1.Kids >>= fun v1 =>
 some v1))
noncomputable def z1k : Nat → (List z03) → (List z03) → Option Bool
  | 0, _, _ => none
  | n + 1, a0, a1 => if ((a0.length : Int) != (a1.length : Int)) then (some false)
 else (iter (z3a (z3n n) (z1k n) a0 a1) 0 >>= Sum.elim (fun r => some r) (fun j1 =>
 some true))
end

noncomputable def z7b (a0 : z03) (a1 : z03) : Option Bool := unf fun n => z3n n a0 a1

noncomputable def z60 (a0 : z33) (a1 : z33) : Option Bool :=
 if (a0.Op == a1.Op) then (z7b a0.L a1.L >>= fun v1 =>
 if v1 then (z7b a0.R a1.R >>= fun v2 =>
 some v2)
 else (some false))
 else (some false)

def z4r (r : Bool) : List XV := [xB r]

def zf6 (r : Bool) : z0l := []

noncomputable def z3b (F_ast_Stmt__ast_sameStmt : (List z02) → (List z02) → Option Bool) (F_ast_sameStmt : z02 → z02 → Option Bool) (F_ast_Arm__ast_sameArm : (List z0r) → (List z0r) → Option Bool) (F_ast_sameArm : z0r → z0r → Option Bool) (a0 : (List z02)) (a1 : (List z02)) (x1 : Int) : Option (Sum Int (Sum Bool Unit)) :=
 if (decide (x1 < (a0.length : Int))) then (idx a0 x1 >>= fun v1 =>
 idx a1 x1 >>= fun v2 =>
 F_ast_sameStmt v1 v2 >>= fun v3 =>
 if (!v3) then (some (.inr (.inl false)))
 else (some (.inl (IntKind.i64.wrap (x1 + 1)))))
 else (some (.inr (.inr ())))

def z13 (r : Bool) : List XV := [xB r]

def z7c (r : Bool) : z0l := []

noncomputable def z9h (r : Bool) : Tg := .r false Tryz.f39.results.toList 0 (z13 r) (z7c r)

def z4s (r : Bool) : List XV := [xB r]

def zf7 (r : Bool) : z0l := []

noncomputable def z3o (F_ast_Stmt__ast_sameStmt : (List z02) → (List z02) → Option Bool) (F_ast_sameStmt : z02 → z02 → Option Bool) (F_ast_Arm__ast_sameArm : (List z0r) → (List z0r) → Option Bool) (F_ast_sameArm : z0r → z0r → Option Bool) (a0 : (List z0r)) (a1 : (List z0r)) (x1 : Int) : Option (Sum Int (Sum Bool Unit)) :=
 if (decide (x1 < (a0.length : Int))) then (idx a0 x1 >>= fun v1 =>
 idx a1 x1 >>= fun v2 =>
 F_ast_sameArm v1 v2 >>= fun v3 =>
 if (!v3) then (some (.inr (.inl false)))
 else (some (.inl (IntKind.i64.wrap (x1 + 1)))))
 else (some (.inr (.inr ())))

def z2m (r : Bool) : List XV := [xB r]

def z7k (r : Bool) : z0l := []

noncomputable def zac (r : Bool) : Tg := .r false Tryz.f71.results.toList 0 (z2m r) (z7k r)

def z58 (r : Bool) : List XV := [xB r]

def zgd (r : Bool) : z0l := []

mutual
noncomputable def z0p : Nat → (List z02) → (List z02) → Option Bool
  | 0, _, _ => none
  | n + 1, a0, a1 => if ((a0.length : Int) != (a1.length : Int)) then (some false)
 else (iter (z3b (z0p n) (z2n n) (z14 n) (z34 n) a0 a1) 0 >>= Sum.elim (fun r => some r) (fun j1 =>
 some true))
noncomputable def z2n : Nat → z02 → z02 → Option Bool
  | 0, _, _ => none
  | n + 1, a0, a1 => if (a0.Kind != a1.Kind) then (some false)
 else (if (a0.Kind == 1) then (((if (a0.Name.toList == a1.Name.toList) then (z7b a0.E a1.E >>= fun v1 =>
 some v1)
 else (some false) : Option Bool) >>= fun j1 =>
 some j1))
 else (if (a0.Kind == 2) then (((z60 a0.C a1.C >>= fun v2 =>
 if v2 then ((z0p n) a0.Body a1.Body >>= fun v3 =>
 if v3 then ((z0p n) a0.Else a1.Else >>= fun v4 =>
 some v4)
 else (some false))
 else (some false) : Option Bool) >>= fun j2 =>
 some j2))
 else (if (a0.Kind == 3) then (((z60 a0.C a1.C >>= fun v5 =>
 if v5 then ((z0p n) a0.Body a1.Body >>= fun v6 =>
 some v6)
 else (some false) : Option Bool) >>= fun j3 =>
 some j3))
 else (if (a0.Kind == 4) then (((if (a0.Name.toList == a1.Name.toList) then (if (a0.Tag.toList == a1.Tag.toList) then (z7b a0.E a1.E >>= fun v7 =>
 some v7)
 else (some false))
 else (some false) : Option Bool) >>= fun j4 =>
 some j4))
 else (if (a0.Kind == 5) then (((if (a0.Name.toList == a1.Name.toList) then ((z14 n) a0.Arms a1.Arms >>= fun v8 =>
 some v8)
 else (some false) : Option Bool) >>= fun j5 =>
 some j5))
 else (if (a0.Kind == 6) then (z60 a0.C a1.C >>= fun v9 =>
 some v9)
 else (if (a0.Kind == 7) then (some (a0.Name.toList == a1.Name.toList))
 else (some true))))))))
noncomputable def z14 : Nat → (List z0r) → (List z0r) → Option Bool
  | 0, _, _ => none
  | n + 1, a0, a1 => if ((a0.length : Int) != (a1.length : Int)) then (some false)
 else (iter (z3o (z0p n) (z2n n) (z14 n) (z34 n) a0 a1) 0 >>= Sum.elim (fun r => some r) (fun j1 =>
 some true))
noncomputable def z34 : Nat → z0r → z0r → Option Bool
  | 0, _, _ => none
  | n + 1, a0, a1 => if (a0.Tag.toList == a1.Tag.toList) then (if (a0.Var.toList == a1.Var.toList) then ((z0p n) a0.Body a1.Body >>= fun v1 =>
 some v1)
 else (some false))
 else (some false)
end

noncomputable def z5t (a0 : (List z02)) (a1 : (List z02)) : Option Bool := unf fun n => z0p n a0 a1

noncomputable def zbf (a0 : z2d) (a1 : z2d) : Option Bool :=
 if (a0.Name.toList == a1.Name.toList) then (z31 a0.Vars a1.Vars >>= fun v1 =>
 if v1 then (z5t a0.Body a1.Body >>= fun v2 =>
 some v2)
 else (some false))
 else (some false)

def zav (r : Bool) : List XV := [xB r]

def zhr (r : Bool) : z0l := []

noncomputable def z3p (a0 : (List z2d)) (a1 : (List z2d)) (x1 : Int) : Option (Sum Int (Sum Bool Unit)) :=
 if (decide (x1 < (a0.length : Int))) then (idx a0 x1 >>= fun v1 =>
 idx a1 x1 >>= fun v2 =>
 zbf v1 v2 >>= fun v3 =>
 if (!v3) then (some (.inr (.inl false)))
 else (some (.inl (IntKind.i64.wrap (x1 + 1)))))
 else (some (.inr (.inr ())))

noncomputable def z4p (a0 : (List z2d)) (a1 : (List z2d)) : Option Bool :=
 if ((a0.length : Int) != (a1.length : Int)) then (some false)
 else (iter (z3p a0 a1) 0 >>= Sum.elim (fun r => some r) (fun j1 =>
 some true))

def z52 (r : Bool) : List XV := [xB r]

def z7l (r : Bool) : z0l := []

noncomputable def zad (r : Bool) : Tg := .r false Tryz.f36.results.toList 0 (z52 r) (z7l r)

noncomputable def z94 (a0 : z27) (a1 : z27) : Option Bool :=
 ((if (a0.Name.toList == a1.Name.toList) then (if (a0.Kind == a1.Kind) then (if (a0.Size == a1.Size) then (if (a0.From.toList == a1.From.toList) then (if (a0.To.toList == a1.To.toList) then (z31 a0.Tags a1.Tags >>= fun v1 =>
 some v1)
 else (some false))
 else (some false))
 else (some false))
 else (some false))
 else (some false) : Option Bool) >>= fun j1 =>
 some j1)

def z99 (r : Bool) : List XV := [xB r]

def zf8 (r : Bool) : z0l := []

noncomputable def z3c (a0 : (List z27)) (a1 : (List z27)) (x1 : Int) : Option (Sum Int (Sum Bool Unit)) :=
 if (decide (x1 < (a0.length : Int))) then (idx a0 x1 >>= fun v1 =>
 idx a1 x1 >>= fun v2 =>
 z94 v1 v2 >>= fun v3 =>
 if (!v3) then (some (.inr (.inl false)))
 else (some (.inl (IntKind.i64.wrap (x1 + 1)))))
 else (some (.inr (.inr ())))

noncomputable def z45 (a0 : (List z27)) (a1 : (List z27)) : Option Bool :=
 if ((a0.length : Int) != (a1.length : Int)) then (some false)
 else (iter (z3c a0 a1) 0 >>= Sum.elim (fun r => some r) (fun j1 =>
 some true))

def z4k (r : Bool) : List XV := [xB r]

def z7d (r : Bool) : z0l := []

noncomputable def z9i (r : Bool) : Tg := .r false Tryz.f41.results.toList 0 (z4k r) (z7d r)

noncomputable def za3 (a0 : z1g) (a1 : z1g) : Option Bool :=
 z4o a0.Rules a1.Rules >>= fun v1 =>
 z4p a0.Procs a1.Procs >>= fun v2 =>
 if v1 then (if v2 then (z45 a0.Chans a1.Chans >>= fun v3 =>
 some v3)
 else (some false))
 else (some false)

def zbg (r : Bool) : List XV := [xB r]

def zmb (r : Bool) : z0l := []

noncomputable def z3w (a1 : (List Int)) (v1 : Int) (x1 : (ByteArray × Bool × Int × Int × Int × Int × (List z05) × Int × Int × (List z05))) : Option (Sum (ByteArray × Bool × Int × Int × Int × Int × (List z05) × Int × Int × (List z05)) (Sum Bool (ByteArray × Bool × Int × Int × Int × (List z05) × Int × Int × (List z05)))) :=
 if (decide (x1.2.2.2.1 < (IntKind.i64.wrap (1 + (IntKind.i64.wrap v1))))) then (((if (decide (x1.2.2.2.1 < (a1.length : Int))) then (idx a1 x1.2.2.2.1 >>= fun v2 =>
 rem v2 5 >>= fun v3 =>
 idx [(ByteArray.mk #[43]), (ByteArray.mk #[45]), (ByteArray.mk #[42]), (ByteArray.mk #[47]), (ByteArray.mk #[37])] v3 >>= fun v4 =>
 scat x1.1 v4 >>= fun v5 =>
 scat v5 (ByteArray.mk #[50]) >>= fun v6 =>
 if (decide (v3 ≥ 2)) then (some (v6, x1.2.1, x1.2.2.1, (IntKind.i64.wrap (4 + (IntKind.i64.wrap v3))), 0, [(z05.mk x1.2.2.2.2.1 x1.2.2.2.2.2.1 (ByteArray.mk #[]) x1.2.2.2.2.2.2.1), (z05.mk 1 2 (ByteArray.mk #[]) [])], x1.2.2.2.2.2.2.2.1, x1.2.2.2.2.2.2.2.2.1, x1.2.2.2.2.2.2.2.2.2))
 else (if x1.2.1 then (some (v6, true, (IntKind.i64.wrap (4 + (IntKind.i64.wrap v3))), 1, 2, [], x1.2.2.1, 0, [(z05.mk x1.2.2.2.2.2.2.2.1 x1.2.2.2.2.2.2.2.2.1 (ByteArray.mk #[]) x1.2.2.2.2.2.2.2.2.2), (z05.mk x1.2.2.2.2.1 x1.2.2.2.2.2.1 (ByteArray.mk #[]) x1.2.2.2.2.2.2.1)]))
 else (some (v6, true, (IntKind.i64.wrap (4 + (IntKind.i64.wrap v3))), 1, 2, [], x1.2.2.2.2.1, x1.2.2.2.2.2.1, x1.2.2.2.2.2.2.1))))
 else (idx [(ByteArray.mk #[43]), (ByteArray.mk #[45]), (ByteArray.mk #[42]), (ByteArray.mk #[47]), (ByteArray.mk #[37])] 0 >>= fun v7 =>
 scat x1.1 v7 >>= fun v8 =>
 scat v8 (ByteArray.mk #[50]) >>= fun v9 =>
 if (decide ((0 : Int) ≥ 2)) then (some (v9, x1.2.1, x1.2.2.1, (IntKind.i64.wrap (4 + (IntKind.i64.wrap 0))), 0, [(z05.mk x1.2.2.2.2.1 x1.2.2.2.2.2.1 (ByteArray.mk #[]) x1.2.2.2.2.2.2.1), (z05.mk 1 2 (ByteArray.mk #[]) [])], x1.2.2.2.2.2.2.2.1, x1.2.2.2.2.2.2.2.2.1, x1.2.2.2.2.2.2.2.2.2))
 else (if x1.2.1 then (some (v9, true, (IntKind.i64.wrap (4 + (IntKind.i64.wrap 0))), 1, 2, [], x1.2.2.1, 0, [(z05.mk x1.2.2.2.2.2.2.2.1 x1.2.2.2.2.2.2.2.2.1 (ByteArray.mk #[]) x1.2.2.2.2.2.2.2.2.2), (z05.mk x1.2.2.2.2.1 x1.2.2.2.2.2.1 (ByteArray.mk #[]) x1.2.2.2.2.2.2.1)]))
 else (some (v9, true, (IntKind.i64.wrap (4 + (IntKind.i64.wrap 0))), 1, 2, [], x1.2.2.2.2.1, x1.2.2.2.2.2.1, x1.2.2.2.2.2.2.1)))) : Option (ByteArray × Bool × Int × Int × Int × (List z05) × Int × Int × (List z05))) >>= fun j2 =>
 some (.inl (j2.1, j2.2.1, j2.2.2.1, (IntKind.i64.wrap (x1.2.2.2.1 + 1)), j2.2.2.2.1, j2.2.2.2.2.1, j2.2.2.2.2.2.1, j2.2.2.2.2.2.2.1, j2.2.2.2.2.2.2.2.1, j2.2.2.2.2.2.2.2.2))))
 else (some (.inr (.inr (x1.1, x1.2.1, x1.2.2.1, x1.2.2.2.2.1, x1.2.2.2.2.2.1, x1.2.2.2.2.2.2.1, x1.2.2.2.2.2.2.2.1, x1.2.2.2.2.2.2.2.2.1, x1.2.2.2.2.2.2.2.2.2))))

noncomputable def z7t (a0 : Int) (a1 : (List Int)) : Option Bool :=
 rem (IntKind.u64.wrap a0) 12 >>= fun v1 =>
 iter (z3w a1 v1) ((ByteArray.mk #[112, 114, 111, 99, 32, 112, 32, 123, 32, 120, 32, 61, 32, 49]), false, 0, 0, 1, 1, [], 0, 0, []) >>= Sum.elim (fun _ => none) (fun j1 =>
 if j1.2.1 then (scat j1.1 (ByteArray.mk #[59, 32, 125]) >>= fun v10 =>
 z5b v10 >>= fun v11 =>
 z8j >>= fun v12 =>
 if v12 then (if (v11.2.2 == 0) then (z6e (z38.mk [] [] [(z6p.mk (ByteArray.mk #[112]) [] [(z0k.mk 1 (ByteArray.mk #[120]) (ByteArray.mk #[]) (z05.mk j1.2.2.1 0 (ByteArray.mk #[]) [(z05.mk j1.2.2.2.2.2.2.1 j1.2.2.2.2.2.2.2.1 (ByteArray.mk #[]) j1.2.2.2.2.2.2.2.2), (z05.mk j1.2.2.2.1 j1.2.2.2.2.1 (ByteArray.mk #[]) j1.2.2.2.2.2.1)]) (z4f.mk 0 (z05.mk 0 0 (ByteArray.mk #[]) []) (z05.mk 0 0 (ByteArray.mk #[]) [])) [] [] [])])]) >>= fun v13 =>
 za3 v11.1 v13 >>= fun v14 =>
 some v14)
 else (some false))
 else (some false))
 else (scat j1.1 (ByteArray.mk #[59, 32, 125]) >>= fun v15 =>
 z5b v15 >>= fun v16 =>
 z8j >>= fun v17 =>
 if v17 then (if (v16.2.2 == 0) then (z6e (z38.mk [] [] [(z6p.mk (ByteArray.mk #[112]) [] [(z0k.mk 1 (ByteArray.mk #[120]) (ByteArray.mk #[]) (z05.mk j1.2.2.2.1 j1.2.2.2.2.1 (ByteArray.mk #[]) j1.2.2.2.2.2.1) (z4f.mk 0 (z05.mk 0 0 (ByteArray.mk #[]) []) (z05.mk 0 0 (ByteArray.mk #[]) [])) [] [] [])])]) >>= fun v18 =>
 za3 v16.1 v18 >>= fun v19 =>
 some v19)
 else (some false))
 else (some false)))

def z87 (r : Bool) : List XV := [xB r]

def za8 (r : Bool) : z0l := []

noncomputable def zdx (r : Bool) : Tg := .r false Tryz.f6.results.toList 0 (z87 r) (za8 r)
end Go.Proofs.YtokjbpmjdcbogaaGreatDoor.Abs
