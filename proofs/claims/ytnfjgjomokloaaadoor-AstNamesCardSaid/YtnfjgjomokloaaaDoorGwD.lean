/- Gw: the functions, told by typed values. -/
import Derived.Test.YtnfjgjomokloaaaDoorHandT
import Derived.Test.YtnfjgjomokloaaaDoorProg
namespace Go.Proofs.YtnfjgjomokloaaaDoor.Abs
open Go Go.RowKit
set_option linter.unusedVariables false

structure z02 where
 Kind : Int
 Num : Int
 Name : ByteArray
 Kids : (List z02)
structure z0x where
 Op : Int
 L : z02
 R : z02
mutual
inductive z26 where
 | mk (Tag : ByteArray) (Var : ByteArray) (Body : (List z0b))
inductive z0b where
 | mk (Kind : Int) (Name : ByteArray) (Tag : ByteArray) (E : z02) (C : z0x) (Body : (List z0b)) (Else : (List z0b)) (Arms : (List z26))
end
def z26.Tag : z26 → ByteArray
 | .mk x _ _ => x
def z26.Var : z26 → ByteArray
 | .mk _ x _ => x
def z26.Body : z26 → (List z0b)
 | .mk _ _ x => x
def z0b.Kind : z0b → Int
 | .mk x _ _ _ _ _ _ _ => x
def z0b.Name : z0b → ByteArray
 | .mk _ x _ _ _ _ _ _ => x
def z0b.Tag : z0b → ByteArray
 | .mk _ _ x _ _ _ _ _ => x
def z0b.E : z0b → z02
 | .mk _ _ _ x _ _ _ _ => x
def z0b.C : z0b → z0x
 | .mk _ _ _ _ x _ _ _ => x
def z0b.Body : z0b → (List z0b)
 | .mk _ _ _ _ _ x _ _ => x
def z0b.Else : z0b → (List z0b)
 | .mk _ _ _ _ _ _ x _ => x
def z0b.Arms : z0b → (List z26)
 | .mk _ _ _ _ _ _ _ x => x
structure z35 where
 Name : ByteArray
 Kind : Int
 Size : Int
 From : ByteArray
 To : ByteArray
 Tags : (List ByteArray)
structure z1p where
 From : Int
 Tag : ByteArray
 To : Int
structure z36 where
 Chan : ByteArray
 Moves : (List z1p)
structure z2w where
 Name : ByteArray
 Vars : (List ByteArray)
 Body : (List z0b)
structure z2d where
 Name : ByteArray
 Kind : Int
 Size : Int
 From : ByteArray
 To : ByteArray
 Tags : (List ByteArray)
structure z3r where
 From : Int
 Tag : ByteArray
 To : Int
structure z2m where
 Chan : ByteArray
 Moves : (List z3r)
structure z09 where
 Kind : Int
 Num : Int
 Name : ByteArray
 Kids : (List z09)
structure z31 where
 Op : Int
 L : z09
 R : z09
mutual
inductive z1c where
 | mk (Tag : ByteArray) (Var : ByteArray) (Body : (List z07))
inductive z07 where
 | mk (Kind : Int) (Name : ByteArray) (Tag : ByteArray) (E : z09) (C : z31) (Body : (List z07)) (Else : (List z07)) (Arms : (List z1c))
end
def z1c.Tag : z1c → ByteArray
 | .mk x _ _ => x
def z1c.Var : z1c → ByteArray
 | .mk _ x _ => x
def z1c.Body : z1c → (List z07)
 | .mk _ _ x => x
def z07.Kind : z07 → Int
 | .mk x _ _ _ _ _ _ _ => x
def z07.Name : z07 → ByteArray
 | .mk _ x _ _ _ _ _ _ => x
def z07.Tag : z07 → ByteArray
 | .mk _ _ x _ _ _ _ _ => x
def z07.E : z07 → z09
 | .mk _ _ _ x _ _ _ _ => x
def z07.C : z07 → z31
 | .mk _ _ _ _ x _ _ _ => x
def z07.Body : z07 → (List z07)
 | .mk _ _ _ _ _ x _ _ => x
def z07.Else : z07 → (List z07)
 | .mk _ _ _ _ _ _ x _ => x
def z07.Arms : z07 → (List z1c)
 | .mk _ _ _ _ _ _ _ x => x
structure z2r where
 Name : ByteArray
 Vars : (List ByteArray)
 Body : (List z07)
structure z18 where
 Kind : Int
 Text : ByteArray
 Num : Int
 At : Int
def z01 (x : z18) : List PV := [.int .i64 x.Kind, .str x.Text, .int .i64 x.Num, .int .i64 x.At]
structure z19 where
 Chans : (List z35)
 Rules : (List z36)
 Procs : (List z2w)
structure z1d where
 Chans : (List z2d)
 Rules : (List z2m)
 Procs : (List z2r)
def z0p (x : ByteArray) : List PV := [.str x]
def z73 (x : z35) : List PV := [.str x.Name, .int .i64 x.Kind, .int .i64 x.Size, .str x.From, .str x.To, .sl (List.map z0p x.Tags)]
def z22 (x : z2d) : List PV := [.str x.Name, .int .i64 x.Kind, .int .i64 x.Size, .str x.From, .str x.To, .sl (List.map z0p x.Tags)]
def z23 (x : z1p) : List PV := [.int .i64 x.From, .str x.Tag, .int .i64 x.To]
def z4e (x : z36) : List PV := [.str x.Chan, .sl (List.map z23 x.Moves)]
def z3s (x : z3r) : List PV := [.int .i64 x.From, .str x.Tag, .int .i64 x.To]
def z2n (x : z2m) : List PV := [.str x.Chan, .sl (List.map z3s x.Moves)]
mutual
def z1e : z02 → List PV
 | .mk z_Kind z_Num z_Name z_Kids => [.int .i64 z_Kind, .int .i64 z_Num, .str z_Name, .sl (z5n z_Kids)]
def z5n : List z02 → List (List PV)
 | [] => []
 | x :: xs => z1e x :: z5n xs
end
theorem z6j : ∀ l, z5n l = List.map z1e l
 | [] => rfl
 | x :: xs => by rw [z5n, z6j xs]; rfl
theorem z4l (x : z02) : z1e x = [.int .i64 x.Kind, .int .i64 x.Num, .str x.Name, .sl (List.map z1e x.Kids)] := by
 cases x; rw [z1e, z6j]
mutual
def z5f : z26 → List PV
 | .mk z_Tag z_Var z_Body => [.str z_Tag, .str z_Var, .sl (z3i z_Body)]
def z5g : List z26 → List (List PV)
 | [] => []
 | x :: xs => z5f x :: z5g xs
def z1f : z0b → List PV
 | .mk z_Kind z_Name z_Tag z_E z_C z_Body z_Else z_Arms => [.int .i64 z_Kind, .str z_Name, .str z_Tag, .int .i64 z_E.Kind, .int .i64 z_E.Num, .str z_E.Name, .sl (List.map z1e z_E.Kids), .int .i64 z_C.Op, .int .i64 z_C.L.Kind, .int .i64 z_C.L.Num, .str z_C.L.Name, .sl (List.map z1e z_C.L.Kids), .int .i64 z_C.R.Kind, .int .i64 z_C.R.Num, .str z_C.R.Name, .sl (List.map z1e z_C.R.Kids), .sl (z3i z_Body), .sl (z3i z_Else), .sl (z5g z_Arms)]
def z3i : List z0b → List (List PV)
 | [] => []
 | x :: xs => z1f x :: z3i xs
end
theorem z79 : ∀ l, z5g l = List.map z5f l
 | [] => by rw [z5g]; rfl
 | x :: xs => by rw [z5g, z79 xs]; rfl
theorem z5h : ∀ l, z3i l = List.map z1f l
 | [] => by rw [z3i]; rfl
 | x :: xs => by rw [z3i, z5h xs]; rfl
theorem z6k (x : z26) : z5f x = [.str x.Tag, .str x.Var, .sl (List.map z1f x.Body)] := by
 cases x; rw [z5f]; simp only [z5h]; first | done | rfl
theorem z7y (x : z0b) : z1f x = [.int .i64 x.Kind, .str x.Name, .str x.Tag, .int .i64 x.E.Kind, .int .i64 x.E.Num, .str x.E.Name, .sl (List.map z1e x.E.Kids), .int .i64 x.C.Op, .int .i64 x.C.L.Kind, .int .i64 x.C.L.Num, .str x.C.L.Name, .sl (List.map z1e x.C.L.Kids), .int .i64 x.C.R.Kind, .int .i64 x.C.R.Num, .str x.C.R.Name, .sl (List.map z1e x.C.R.Kids), .sl (List.map z1f x.Body), .sl (List.map z1f x.Else), .sl (List.map z5f x.Arms)] := by
 cases x; rw [z1f]; simp only [z79, z5h]; first | done | rfl
def z74 (x : z2w) : List PV := [.str x.Name, .sl (List.map z0p x.Vars), .sl (List.map z1f x.Body)]
def z32 (x : z19) : List PV := [.sl (List.map z73 x.Chans), .sl (List.map z4e x.Rules), .sl (List.map z74 x.Procs)]
mutual
def z10 : z09 → List PV
 | .mk z_Kind z_Num z_Name z_Kids => [.int .i64 z_Kind, .int .i64 z_Num, .str z_Name, .sl (z5o z_Kids)]
def z5o : List z09 → List (List PV)
 | [] => []
 | x :: xs => z10 x :: z5o xs
end
theorem z6l : ∀ l, z5o l = List.map z10 l
 | [] => rfl
 | x :: xs => by rw [z5o, z6l xs]; rfl
theorem z3t (x : z09) : z10 x = [.int .i64 x.Kind, .int .i64 x.Num, .str x.Name, .sl (List.map z10 x.Kids)] := by
 cases x; rw [z10, z6l]
theorem zan (x : z09) : (z10 x).length = 4 := by rw [z3t]; rfl
def z8p (x : z31) : List PV := [.int .i64 x.Op, .int .i64 x.L.Kind, .int .i64 x.L.Num, .str x.L.Name, .sl (List.map z10 x.L.Kids), .int .i64 x.R.Kind, .int .i64 x.R.Num, .str x.R.Name, .sl (List.map z10 x.R.Kids)]
def zb9 (x : z0x) : List PV := [.int .i64 x.Op, .int .i64 x.L.Kind, .int .i64 x.L.Num, .str x.L.Name, .sl (List.map z1e x.L.Kids), .int .i64 x.R.Kind, .int .i64 x.R.Num, .str x.R.Name, .sl (List.map z1e x.R.Kids)]
mutual
def z1w : z1c → List PV
 | .mk z_Tag z_Var z_Body => [.str z_Tag, .str z_Var, .sl (z3j z_Body)]
def z5i : List z1c → List (List PV)
 | [] => []
 | x :: xs => z1w x :: z5i xs
def z0r : z07 → List PV
 | .mk z_Kind z_Name z_Tag z_E z_C z_Body z_Else z_Arms => [.int .i64 z_Kind, .str z_Name, .str z_Tag, .int .i64 z_E.Kind, .int .i64 z_E.Num, .str z_E.Name, .sl (List.map z10 z_E.Kids), .int .i64 z_C.Op, .int .i64 z_C.L.Kind, .int .i64 z_C.L.Num, .str z_C.L.Name, .sl (List.map z10 z_C.L.Kids), .int .i64 z_C.R.Kind, .int .i64 z_C.R.Num, .str z_C.R.Name, .sl (List.map z10 z_C.R.Kids), .sl (z3j z_Body), .sl (z3j z_Else), .sl (z5i z_Arms)]
def z3j : List z07 → List (List PV)
 | [] => []
 | x :: xs => z0r x :: z3j xs
end
theorem z7a : ∀ l, z5i l = List.map z1w l
 | [] => by rw [z5i]; rfl
 | x :: xs => by rw [z5i, z7a xs]; rfl
theorem z5j : ∀ l, z3j l = List.map z0r l
 | [] => by rw [z3j]; rfl
 | x :: xs => by rw [z3j, z5j xs]; rfl
theorem z6m (x : z1c) : z1w x = [.str x.Tag, .str x.Var, .sl (List.map z0r x.Body)] := by
 cases x; rw [z1w]; simp only [z5j]; first | done | rfl
theorem zbp (x : z1c) : (z1w x).length = 3 := by rw [z6m]; rfl
theorem z68 (x : z07) : z0r x = [.int .i64 x.Kind, .str x.Name, .str x.Tag, .int .i64 x.E.Kind, .int .i64 x.E.Num, .str x.E.Name, .sl (List.map z10 x.E.Kids), .int .i64 x.C.Op, .int .i64 x.C.L.Kind, .int .i64 x.C.L.Num, .str x.C.L.Name, .sl (List.map z10 x.C.L.Kids), .int .i64 x.C.R.Kind, .int .i64 x.C.R.Num, .str x.C.R.Name, .sl (List.map z10 x.C.R.Kids), .sl (List.map z0r x.Body), .sl (List.map z0r x.Else), .sl (List.map z1w x.Arms)] := by
 cases x; rw [z0r]; simp only [z7a, z5j]; first | done | rfl
theorem zao (x : z07) : (z0r x).length = 19 := by rw [z68]; rfl

def z2y (x : z2r) : List PV := [.str x.Name, .sl (List.map z0p x.Vars), .sl (List.map z0r x.Body)]
def z3d (x : z1d) : List PV := [.sl (List.map z22 x.Chans), .sl (List.map z2n x.Rules), .sl (List.map z2y x.Procs)]
structure z00 where
 f_out : (List ByteArray)
 f_form : Bool
 f_deep : Bool
 f_blocks : Int
 f_parens : Int

def zba (x : z0b) : List PV := [.int .i64 x.Kind, .str x.Name, .str x.Tag, .int .i64 x.E.Kind, .int .i64 x.E.Num, .str x.E.Name, .sl (List.map z1e x.E.Kids), .int .i64 x.C.Op, .int .i64 x.C.L.Kind, .int .i64 x.C.L.Num, .str x.C.L.Name, .sl (List.map z1e x.C.L.Kids), .int .i64 x.C.R.Kind, .int .i64 x.C.R.Num, .str x.C.R.Name, .sl (List.map z1e x.C.R.Kids), .sl (List.map z1f x.Body), .sl (List.map z1f x.Else), .sl (List.map z5f x.Arms)]
def z4f (x : z02) : List PV := [.int .i64 x.Kind, .int .i64 x.Num, .str x.Name, .sl (List.map z1e x.Kids)]
def z0d (x : z09) : List PV := [.int .i64 x.Kind, .int .i64 x.Num, .str x.Name, .sl (List.map z10 x.Kids)]
def zaa (x : z26) : List PV := [.str x.Tag, .str x.Var, .sl (List.map z1f x.Body)]
def z4n (x : z07) : List PV := [.int .i64 x.Kind, .str x.Name, .str x.Tag, .int .i64 x.E.Kind, .int .i64 x.E.Num, .str x.E.Name, .sl (List.map z10 x.E.Kids), .int .i64 x.C.Op, .int .i64 x.C.L.Kind, .int .i64 x.C.L.Num, .str x.C.L.Name, .sl (List.map z10 x.C.L.Kids), .int .i64 x.C.R.Kind, .int .i64 x.C.R.Num, .str x.C.R.Name, .sl (List.map z10 x.C.R.Kids), .sl (List.map z0r x.Body), .sl (List.map z0r x.Else), .sl (List.map z1w x.Arms)]
def zik (x : z1c) : List PV := [.str x.Tag, .str x.Var, .sl (List.map z0r x.Body)]
noncomputable def z5a (a0 : Int) : Option Bool :=
 if (decide (a0 ≥ 97)) then (some (decide (a0 ≤ 122)))
 else (some false)

def z4z (r : Bool) : List XV := [xB r]

def zct (r : Bool) : z0g := []

noncomputable def z5z (a0 : Int) : Option Bool :=
 if (decide (a0 ≥ 48)) then (some (decide (a0 ≤ 57)))
 else (some false)

def z69 (r : Bool) : List XV := [xB r]

def zdy (r : Bool) : z0g := []

noncomputable def z4o (a0 : ByteArray) (x1 : Int) : Option (Sum Int (Sum Int Int)) :=
 ((if (decide (x1 < (a0.size : Int))) then (bidx a0 x1 >>= fun v1 =>
 z5a v1 >>= fun v2 =>
 if v2 then (some true)
 else (bidx a0 x1 >>= fun v3 =>
 z5z v3 >>= fun v4 =>
 some v4))
 else (some false) : Option Bool) >>= fun j2 =>
 if j2 then (some (.inl (IntKind.i64.wrap (x1 + 1))))
 else (some (.inr (.inr x1))))

noncomputable def z8q (a0 : ByteArray) : Option Int :=
 iter (z4o a0) 0 >>= Sum.elim (fun _ => none) (fun j1 =>
 some j1)

def z6n (r : Int) : List XV := [xI r]

def zcu (r : Int) : z0g := []

noncomputable def zil (r : Int) : Tg := .r false Tryd.f26.results.toList 0 (z6n r) (zcu r)

noncomputable def z50 (a0 : ByteArray) : Option Bool :=
 if (a0.toList == (ByteArray.mk #[99, 104, 97, 110]).toList) then (some true)
 else (if (a0.toList == (ByteArray.mk #[98, 108, 111, 99, 107]).toList) then (some true)
 else (if (a0.toList == (ByteArray.mk #[100, 114, 111, 112]).toList) then (some true)
 else (if (a0.toList == (ByteArray.mk #[108, 111, 115, 115, 121]).toList) then (some true)
 else (if (a0.toList == (ByteArray.mk #[102, 114, 111, 109]).toList) then (some true)
 else (if (a0.toList == (ByteArray.mk #[116, 111]).toList) then (some true)
 else (if (a0.toList == (ByteArray.mk #[114, 117, 108, 101]).toList) then (some true)
 else (if (a0.toList == (ByteArray.mk #[112, 114, 111, 99]).toList) then (some true)
 else (if (a0.toList == (ByteArray.mk #[118, 97, 114]).toList) then (some true)
 else (if (a0.toList == (ByteArray.mk #[105, 102]).toList) then (some true)
 else (if (a0.toList == (ByteArray.mk #[101, 108, 115, 101]).toList) then (some true)
 else (if (a0.toList == (ByteArray.mk #[119, 104, 105, 108, 101]).toList) then (some true)
 else (if (a0.toList == (ByteArray.mk #[115, 101, 110, 100]).toList) then (some true)
 else (if (a0.toList == (ByteArray.mk #[114, 101, 99, 118]).toList) then (some true)
 else (if (a0.toList == (ByteArray.mk #[97, 115, 115, 101, 114, 116]).toList) then (some true)
 else (if (a0.toList == (ByteArray.mk #[105, 110, 112, 117, 116]).toList) then (some true)
 else (some false))))))))))))))))

def z5v (r : Bool) : List XV := [xB r]

def zap (r : Bool) : z0g := []

noncomputable def z60 (a0 : ByteArray) : Option (z18 × Int) :=
 if (decide ((a0.size : Int) > 12)) then (some ((z18.mk 0 (ByteArray.mk #[]) 0 0), 3))
 else (z50 a0 >>= fun v1 =>
 if v1 then (some ((z18.mk 4 a0 0 0), 0))
 else (some ((z18.mk 1 a0 0 0), 0)))

def z7k (r : (z18 × Int)) : List XV := [.agg (bs (z01 r.1)), xI r.2]

def zdz (r : (z18 × Int)) : z0g := []

def zfb (r : (Int × Int)) : List XV := [xI r.1, xI r.2]

def ze0 (r : Int) : List XV := [xI r]

noncomputable def z7z (a0 : ByteArray) : Option Int :=
 ((if (decide ((a0.size : Int) > 1)) then (bidx a0 1 >>= fun v1 =>
 if (v1 == 61) then (bidx a0 0 >>= fun v2 =>
 ze1 (ByteArray.mk #[61, 33, 60, 62]) v2 >>= fun v3 =>
 some (decide (v3 ≥ 0)))
 else (some false))
 else (some false) : Option Bool) >>= fun j1 =>
 if j1 then (some 2)
 else (bidx a0 0 >>= fun v4 =>
 ze1 (ByteArray.mk #[123, 125, 40, 41, 59, 44, 46, 61, 60, 62, 43, 45, 42, 47, 37]) v4 >>= fun v5 =>
 if (decide (v5 ≥ 0)) then (some 1)
 else (some 0)))

def z8r (r : Int) : List XV := [xI r]

def zgk (r : Int) : z0g := []

noncomputable def z6a (a0 : ByteArray) : Option (z18 × Int) :=
 bidx a0 0 >>= fun v1 =>
 z5a v1 >>= fun v2 =>
 if v2 then (z8q a0 >>= fun v3 =>
 ssub a0 0 v3 >>= fun v4 =>
 z60 v4 >>= fun v5 =>
 some (v5.1, v5.2))
 else (bidx a0 0 >>= fun v6 =>
 z5z v6 >>= fun v7 =>
 if v7 then (z8q a0 >>= fun v8 =>
 ssub a0 0 v8 >>= fun v9 =>
 zab v9 >>= fun v10 =>
 some ((z18.mk 2 v9 v10.1 0), v10.2))
 else (z7z a0 >>= fun v11 =>
 if (v11 == 0) then (some ((z18.mk 0 (ByteArray.mk #[]) 0 0), 2))
 else (ssub a0 0 v11 >>= fun v12 =>
 some ((z18.mk 3 v12 0 0), 0))))

def z8s (r : (z18 × Int)) : List XV := [.agg (bs (z01 r.1)), xI r.2]

def zgl (r : (z18 × Int)) : z0g := []

noncomputable def z4p (a0 : ByteArray) (x1 : (Int × (List z18))) : Option (Sum (Int × (List z18)) (Sum ((List z18) × Int × Int) (List z18))) :=
 if (decide (x1.1 < (a0.size : Int))) then (((bidx a0 x1.1 >>= fun v1 =>
 if (v1 == 32) then (some true)
 else (bidx a0 x1.1 >>= fun v2 =>
 some (v2 == 10)) : Option Bool) >>= fun j2 =>
 if j2 then (some (.inl ((IntKind.i64.wrap (x1.1 + 1)), x1.2)))
 else (ssub a0 x1.1 (a0.size : Int) >>= fun v3 =>
 z6a v3 >>= fun v4 =>
 if (v4.2 != 0) then (some (.inr (.inl ([], x1.1, v4.2))))
 else (app 40 x1.2 [(z18.mk v4.1.Kind v4.1.Text v4.1.Num x1.1)] >>= fun v5 =>
 some (.inl ((IntKind.i64.wrap (x1.1 + (v4.1.Text.size : Int))), v5))))))
 else (some (.inr (.inr x1.2)))

noncomputable def z39 (a0 : ByteArray) : Option ((List z18) × Int × Int) :=
 iter (z4p a0) (0, []) >>= Sum.elim (fun r => some r) (fun j1 =>
 if (decide ((j1.length : Int) > 2000)) then (some ([], (a0.size : Int), 4))
 else (some (j1, 0, 0)))

def z2k (r : ((List z18) × Int × Int)) : List XV := [xL (List.map z01 r.1), xI r.2.1, xI r.2.2]

def zcv (r : ((List z18) × Int × Int)) : z0g := []

noncomputable def zim (r : ((List z18) × Int × Int)) : Tg := .r false Tryd.f8.results.toList 0 (z2k r) (zcv r)

noncomputable def z4q (F_l02_Expr : z02 → Option z09) (a0 : z02) (x1 : (Int × (List z09))) : Option (Sum (Int × (List z09)) (Sum z09 (List z09))) :=
 if (decide (x1.1 < (a0.Kids.length : Int))) then (idx a0.Kids x1.1 >>= fun v1 =>
 F_l02_Expr v1 >>= fun v2 =>
 app 56 x1.2 [v2] >>= fun v3 =>
 some (.inl ((IntKind.i64.wrap (x1.1 + 1)), v3)))
 else (some (.inr (.inr x1.2)))

def z3h (r : z09) : List XV := [.agg (bs (z0d r))]

def zbb (r : z09) : z0g := []

noncomputable def zgm (r : z09) : Tg := .r false Tryd.f22.results.toList 0 (z3h r) (zbb r)

noncomputable def z47 : Nat → z02 → Option z09
  | 0, _ => none
  | n + 1, a0 => iter (z4q (z47 n) a0) (0, []) >>= Sum.elim (fun _ => none) (fun j1 =>
 some (z09.mk a0.Kind a0.Num a0.Name j1))

noncomputable def z81 (a0 : z02) : Option z09 := unf fun n => z47 n a0

noncomputable def z82 (a0 : z0x) : Option z31 :=
 z81 a0.L >>= fun v1 =>
 z81 a0.R >>= fun v2 =>
 some (z31.mk a0.Op v1 v2)

def z8t (r : z31) : List XV := [.agg (bs (z8p r))]

def zgn (r : z31) : z0g := []

noncomputable def z4g (F_l02_Stmts : (List z0b) → Option (List z07)) (v1 : z0b) (x2 : (Int × (List z1c))) : Option (Sum (Int × (List z1c)) (Sum (List z07) (List z1c))) :=
 if (decide (x2.1 < (v1.Arms.length : Int))) then (idx v1.Arms x2.1 >>= fun v6 =>
 F_l02_Stmts v6.Body >>= fun v7 =>
 app 56 x2.2 [(z1c.mk v6.Tag v6.Var v7)] >>= fun v8 =>
 some (.inl ((IntKind.i64.wrap (x2.1 + 1)), v8)))
 else (some (.inr (.inr x2.2)))

noncomputable def z4h (F_l02_Stmts : (List z0b) → Option (List z07)) (a0 : (List z0b)) (x1 : (Int × (List z07))) : Option (Sum (Int × (List z07)) (Sum (List z07) (List z07))) :=
 if (decide (x1.1 < (a0.length : Int))) then (idx a0 x1.1 >>= fun v1 =>
 z81 v1.E >>= fun v2 =>
 z82 v1.C >>= fun v3 =>
 F_l02_Stmts v1.Body >>= fun v4 =>
 F_l02_Stmts v1.Else >>= fun v5 =>
 iter (z4g F_l02_Stmts v1) (0, []) >>= Sum.elim (fun _ => none) (fun j2 =>
 app 288 x1.2 [(z07.mk v1.Kind v1.Name v1.Tag v2 v3 v4 v5 j2)] >>= fun v9 =>
 some (.inl ((IntKind.i64.wrap (x1.1 + 1)), v9))))
 else (some (.inr (.inr x1.2)))

def z34 (r : (List z07)) : List XV := [xL (List.map z0r r)]

def zac (r : (List z07)) : z0g := []

noncomputable def zad (r : (List z07)) : Tg := .r false Tryd.f13.results.toList 0 (z34 r) (zac r)

noncomputable def z2z : Nat → (List z0b) → Option (List z07)
  | 0, _ => none
  | n + 1, a0 => iter (z4h (z2z n) a0) (0, []) >>= Sum.elim (fun _ => none) (fun j1 =>
 some j1)

noncomputable def zae (a0 : (List z0b)) : Option (List z07) := unf fun n => z2z n a0

noncomputable def z3u (a0 : z19) (x1 : (Int × (List z2d))) : Option (Sum (Int × (List z2d)) (Sum z1d (List z2d))) :=
 if (decide (x1.1 < (a0.Chans.length : Int))) then (idx a0.Chans x1.1 >>= fun v1 =>
 app 16 [] v1.Tags >>= fun v2 =>
 app 88 x1.2 [(z2d.mk v1.Name v1.Kind v1.Size v1.From v1.To v2)] >>= fun v3 =>
 some (.inl ((IntKind.i64.wrap (x1.1 + 1)), v3)))
 else (some (.inr (.inr x1.2)))

noncomputable def z3v (a0 : z19) (x2 : (Int × (List z2m))) (x3 : (Int × (List z3r))) : Option (Sum (Int × (List z3r)) (Sum z1d (List z3r))) :=
 idx a0.Rules x2.1 >>= fun v5 =>
 if (decide (x3.1 < (v5.Moves.length : Int))) then (idx a0.Rules x2.1 >>= fun v6 =>
 idx v6.Moves x3.1 >>= fun v7 =>
 app 32 x3.2 [(z3r.mk v7.From v7.Tag v7.To)] >>= fun v8 =>
 some (.inl ((IntKind.i64.wrap (x3.1 + 1)), v8)))
 else (some (.inr (.inr x3.2)))

noncomputable def z3w (a0 : z19) (x2 : (Int × (List z2m))) : Option (Sum (Int × (List z2m)) (Sum z1d (List z2m))) :=
 if (decide (x2.1 < (a0.Rules.length : Int))) then (idx a0.Rules x2.1 >>= fun v4 =>
 iter (z3v a0 x2) (0, []) >>= Sum.elim (fun _ => none) (fun j3 =>
 app 40 x2.2 [(z2m.mk v4.Chan j3)] >>= fun v9 =>
 some (.inl ((IntKind.i64.wrap (x2.1 + 1)), v9))))
 else (some (.inr (.inr x2.2)))

noncomputable def z3x (a0 : z19) (x4 : (Int × (List z2r))) : Option (Sum (Int × (List z2r)) (Sum z1d (List z2r))) :=
 if (decide (x4.1 < (a0.Procs.length : Int))) then (idx a0.Procs x4.1 >>= fun v10 =>
 app 16 [] v10.Vars >>= fun v11 =>
 zae v10.Body >>= fun v12 =>
 app 64 x4.2 [(z2r.mk v10.Name v11 v12)] >>= fun v13 =>
 some (.inl ((IntKind.i64.wrap (x4.1 + 1)), v13)))
 else (some (.inr (.inr x4.2)))

noncomputable def z1o (a0 : z19) : Option z1d :=
 iter (z3u a0) (0, []) >>= Sum.elim (fun _ => none) (fun j1 =>
 iter (z3w a0) (0, []) >>= Sum.elim (fun _ => none) (fun j2 =>
 iter (z3x a0) (0, []) >>= Sum.elim (fun _ => none) (fun j4 =>
 some (z1d.mk j1 j2 j4))))

def z1l (r : z1d) : List XV := [.agg (bs (z3d r))]

def z99 (r : z1d) : z0g := []

noncomputable def z5p (r : z1d) : Tg := .r false Tryd.f6.results.toList 0 (z1l r) (z99 r)

noncomputable def z03 (a0 : z00) (a1 : (List ByteArray)) : Option z00 :=
 app 16 a0.f_out a1 >>= fun v1 =>
 some (z00.mk v1 a0.f_form a0.f_deep a0.f_blocks a0.f_parens)

def z04 (r : z00) : List XV := []

def z05 (r : z00) : z0g := [oB 70 [.row 1, .pv (.bool r.f_form), .pv (.bool r.f_deep), .pv (.int .i64 r.f_blocks), .pv (.int .i64 r.f_parens)], oR true 9 1 (List.map z0p r.f_out)]

noncomputable def z0z (a0 : z00) (a1 : Bool) : Option z00 :=
 if a0.f_form then (some (z00.mk a0.f_out true a0.f_deep a0.f_blocks a0.f_parens))
 else (some (z00.mk a0.f_out (!a1) a0.f_deep a0.f_blocks a0.f_parens))

def z14 (r : z00) : List XV := []

def z15 (r : z00) : z0g := [oB 70 [.row 1, .pv (.bool r.f_form), .pv (.bool r.f_deep), .pv (.int .i64 r.f_blocks), .pv (.int .i64 r.f_parens)], oR true 9 1 (List.map z0p r.f_out)]

noncomputable def z0h (a0 : z00) (a1 : ByteArray) : Option z00 :=
 z39 a1 >>= fun v1 =>
 ((if (v1.2.2 == 0) then (if ((v1.1.length : Int) == 1) then (idx v1.1 0 >>= fun v2 =>
 if (v2.Kind == 1) then (idx v1.1 0 >>= fun v3 =>
 z0z a0 (v3.Text.toList == a1.toList) >>= fun v4 =>
 some (v4.f_form, v4.f_deep, v4.f_blocks, v4.f_parens, v4.f_out))
 else (z0z a0 false >>= fun v5 =>
 some (v5.f_form, v5.f_deep, v5.f_blocks, v5.f_parens, v5.f_out)))
 else (z0z a0 false >>= fun v6 =>
 some (v6.f_form, v6.f_deep, v6.f_blocks, v6.f_parens, v6.f_out)))
 else (z0z a0 false >>= fun v7 =>
 some (v7.f_form, v7.f_deep, v7.f_blocks, v7.f_parens, v7.f_out)) : Option (Bool × Bool × Int × Int × (List ByteArray))) >>= fun j1 =>
 z03 (z00.mk j1.2.2.2.2 j1.1 j1.2.1 j1.2.2.1 j1.2.2.2.1) [a1] >>= fun v8 =>
 some v8)

def z0m (r : z00) : List XV := []

def z0n (r : z00) : z0g := [oB 70 [.row 1, .pv (.bool r.f_form), .pv (.bool r.f_deep), .pv (.int .i64 r.f_blocks), .pv (.int .i64 r.f_parens)], oR true 9 1 (List.map z0p r.f_out)]

def zl1 (r : ByteArray) : List XV := [xS r]

noncomputable def z1g (a0 : z00) (a1 : Int) : Option z00 :=
 ((if (decide (a1 ≥ 0)) then (z0z a0 (decide (a1 ≤ 2147483647)) >>= fun v1 =>
 some (v1.f_form, v1.f_deep, v1.f_blocks, v1.f_parens, v1.f_out))
 else (z0z a0 false >>= fun v2 =>
 some (v2.f_form, v2.f_deep, v2.f_blocks, v2.f_parens, v2.f_out)) : Option (Bool × Bool × Int × Int × (List ByteArray))) >>= fun j1 =>
 itoa a1 >>= fun v3 =>
 z03 (z00.mk j1.2.2.2.2 j1.1 j1.2.1 j1.2.2.1 j1.2.2.2.1) [v3] >>= fun v4 =>
 some v4)

def z2e (r : z00) : List XV := []

def z2f (r : z00) : z0g := [oB 70 [.row 1, .pv (.bool r.f_form), .pv (.bool r.f_deep), .pv (.int .i64 r.f_blocks), .pv (.int .i64 r.f_parens)], oR true 9 1 (List.map z0p r.f_out)]

noncomputable def z1t (a1 : z2d) (x2 : (Int × Bool × Bool × Int × Int × (List ByteArray))) : Option (Sum (Int × Bool × Bool × Int × Int × (List ByteArray)) (Sum z00 (Bool × Bool × Int × Int × (List ByteArray)))) :=
 if (decide (x2.1 < (a1.Tags.length : Int))) then (((idx a1.Tags x2.1 >>= fun v11 =>
 if (decide (x2.1 > 0)) then (z03 (z00.mk x2.2.2.2.2.2 x2.2.1 x2.2.2.1 x2.2.2.2.1 x2.2.2.2.2.1) [(ByteArray.mk #[44])] >>= fun v12 =>
 z0h v12 v11 >>= fun v13 =>
 some (v13.f_form, v13.f_deep, v13.f_blocks, v13.f_parens, v13.f_out))
 else (z0h (z00.mk x2.2.2.2.2.2 x2.2.1 x2.2.2.1 x2.2.2.2.1 x2.2.2.2.2.1) v11 >>= fun v14 =>
 some (v14.f_form, v14.f_deep, v14.f_blocks, v14.f_parens, v14.f_out)) : Option (Bool × Bool × Int × Int × (List ByteArray))) >>= fun j3 =>
 some (.inl ((IntKind.i64.wrap (x2.1 + 1)), j3.1, j3.2.1, j3.2.2.1, j3.2.2.2.1, j3.2.2.2.2))))
 else (some (.inr (.inr (x2.2.1, x2.2.2.1, x2.2.2.2.1, x2.2.2.2.2.1, x2.2.2.2.2.2))))

noncomputable def z1u (a1 : z2d) (x4 : (Int × Bool × Bool × Int × Int × (List ByteArray))) : Option (Sum (Int × Bool × Bool × Int × Int × (List ByteArray)) (Sum z00 (Bool × Bool × Int × Int × (List ByteArray)))) :=
 if (decide (x4.1 < (a1.Tags.length : Int))) then (((idx a1.Tags x4.1 >>= fun v25 =>
 if (decide (x4.1 > 0)) then (z03 (z00.mk x4.2.2.2.2.2 x4.2.1 x4.2.2.1 x4.2.2.2.1 x4.2.2.2.2.1) [(ByteArray.mk #[44])] >>= fun v26 =>
 z0h v26 v25 >>= fun v27 =>
 some (v27.f_form, v27.f_deep, v27.f_blocks, v27.f_parens, v27.f_out))
 else (z0h (z00.mk x4.2.2.2.2.2 x4.2.1 x4.2.2.1 x4.2.2.2.1 x4.2.2.2.2.1) v25 >>= fun v28 =>
 some (v28.f_form, v28.f_deep, v28.f_blocks, v28.f_parens, v28.f_out)) : Option (Bool × Bool × Int × Int × (List ByteArray))) >>= fun j5 =>
 some (.inl ((IntKind.i64.wrap (x4.1 + 1)), j5.1, j5.2.1, j5.2.2.1, j5.2.2.2.1, j5.2.2.2.2))))
 else (some (.inr (.inr (x4.2.1, x4.2.2.1, x4.2.2.2.1, x4.2.2.2.2.1, x4.2.2.2.2.2))))

noncomputable def z2o (a0 : z00) (a1 : z2d) : Option z00 :=
 z03 a0 [(ByteArray.mk #[99, 104, 97, 110])] >>= fun v1 =>
 z0h v1 a1.Name >>= fun v2 =>
 ((if (decide (a1.Kind < 0)) then (some true)
 else (some (decide (a1.Kind ≥ 3))) : Option Bool) >>= fun j1 =>
 if j1 then (z0z v2 false >>= fun v3 =>
 z1g v3 a1.Size >>= fun v4 =>
 z03 v4 [(ByteArray.mk #[102, 114, 111, 109])] >>= fun v5 =>
 z0h v5 a1.From >>= fun v6 =>
 z03 v6 [(ByteArray.mk #[116, 111])] >>= fun v7 =>
 z0h v7 a1.To >>= fun v8 =>
 z03 v8 [(ByteArray.mk #[123])] >>= fun v9 =>
 z0z v9 (decide ((a1.Tags.length : Int) > 0)) >>= fun v10 =>
 iter (z1t a1) (0, v10.f_form, v10.f_deep, v10.f_blocks, v10.f_parens, v10.f_out) >>= Sum.elim (fun _ => none) (fun j2 =>
 z03 (z00.mk j2.2.2.2.2 j2.1 j2.2.1 j2.2.2.1 j2.2.2.2.1) [(ByteArray.mk #[125]), (ByteArray.mk #[59])] >>= fun v15 =>
 some v15))
 else (idx [(ByteArray.mk #[98, 108, 111, 99, 107]), (ByteArray.mk #[100, 114, 111, 112]), (ByteArray.mk #[108, 111, 115, 115, 121])] a1.Kind >>= fun v16 =>
 z03 v2 [v16] >>= fun v17 =>
 z1g v17 a1.Size >>= fun v18 =>
 z03 v18 [(ByteArray.mk #[102, 114, 111, 109])] >>= fun v19 =>
 z0h v19 a1.From >>= fun v20 =>
 z03 v20 [(ByteArray.mk #[116, 111])] >>= fun v21 =>
 z0h v21 a1.To >>= fun v22 =>
 z03 v22 [(ByteArray.mk #[123])] >>= fun v23 =>
 z0z v23 (decide ((a1.Tags.length : Int) > 0)) >>= fun v24 =>
 iter (z1u a1) (0, v24.f_form, v24.f_deep, v24.f_blocks, v24.f_parens, v24.f_out) >>= Sum.elim (fun _ => none) (fun j4 =>
 z03 (z00.mk j4.2.2.2.2 j4.1 j4.2.1 j4.2.2.1 j4.2.2.2.1) [(ByteArray.mk #[125]), (ByteArray.mk #[59])] >>= fun v29 =>
 some v29)))

def z40 (r : z00) : List XV := []

def z41 (r : z00) : z0g := [oB 70 [.row 1, .pv (.bool r.f_form), .pv (.bool r.f_deep), .pv (.int .i64 r.f_blocks), .pv (.int .i64 r.f_parens)], oR true 9 1 (List.map z0p r.f_out)]

noncomputable def z56 (r : z00) : Tg := .r false Tryd.f10.results.toList 2 (z40 r) (z41 r)

noncomputable def z29 (a1 : z2m) (x1 : (Int × Bool × Bool × Int × Int × (List ByteArray))) : Option (Sum (Int × Bool × Bool × Int × Int × (List ByteArray)) (Sum z00 (Bool × Bool × Int × Int × (List ByteArray)))) :=
 if (decide (x1.1 < (a1.Moves.length : Int))) then (idx a1.Moves x1.1 >>= fun v4 =>
 z1g (z00.mk x1.2.2.2.2.2 x1.2.1 x1.2.2.1 x1.2.2.2.1 x1.2.2.2.2.1) v4.From >>= fun v5 =>
 z0h v5 v4.Tag >>= fun v6 =>
 z1g v6 v4.To >>= fun v7 =>
 z03 v7 [(ByteArray.mk #[59])] >>= fun v8 =>
 some (.inl ((IntKind.i64.wrap (x1.1 + 1)), v8.f_form, v8.f_deep, v8.f_blocks, v8.f_parens, v8.f_out)))
 else (some (.inr (.inr (x1.2.1, x1.2.2.1, x1.2.2.2.1, x1.2.2.2.2.1, x1.2.2.2.2.2))))

noncomputable def z3a (a0 : z00) (a1 : z2m) : Option z00 :=
 z03 a0 [(ByteArray.mk #[114, 117, 108, 101])] >>= fun v1 =>
 z0h v1 a1.Chan >>= fun v2 =>
 z03 v2 [(ByteArray.mk #[123])] >>= fun v3 =>
 iter (z29 a1) (0, v3.f_form, v3.f_deep, v3.f_blocks, v3.f_parens, v3.f_out) >>= Sum.elim (fun _ => none) (fun j1 =>
 z03 (z00.mk j1.2.2.2.2 j1.1 j1.2.1 j1.2.2.1 j1.2.2.2.1) [(ByteArray.mk #[125])] >>= fun v9 =>
 some v9)

def z4r (r : z00) : List XV := []

def z4s (r : z00) : z0g := [oB 70 [.row 1, .pv (.bool r.f_form), .pv (.bool r.f_deep), .pv (.int .i64 r.f_blocks), .pv (.int .i64 r.f_parens)], oR true 9 1 (List.map z0p r.f_out)]

noncomputable def z8u (r : z00) : Tg := .r false Tryd.f11.results.toList 2 (z4r r) (z4s r)

noncomputable def z6b (a0 : Int) : Option Bool :=
 if (decide (a0 ≥ 4)) then (some (decide (a0 ≤ 8)))
 else (some false)

def z5b (r : Bool) : List XV := [xB r]

def zgo (r : Bool) : z0g := []

noncomputable def z6o (a0 : Int) : Option Bool :=
 if (a0 == 4) then (some true)
 else (some (a0 == 5))

def z48 (r : Bool) : List XV := [xB r]

def zin (r : Bool) : z0g := []

noncomputable def z3k (a0 : z00) (a1 : z09) : Option z00 :=
 z0z a0 ((a1.Kids.length : Int) == 0) >>= fun v1 =>
 if (a1.Kind == 1) then (z1g v1 a1.Num >>= fun v2 =>
 some v2)
 else (z0z v1 (a1.Kind == 2) >>= fun v3 =>
 z0h v3 a1.Name >>= fun v4 =>
 some v4)

def z61 (r : z00) : List XV := []

def z62 (r : z00) : z0g := [oB 70 [.row 1, .pv (.bool r.f_form), .pv (.bool r.f_deep), .pv (.int .i64 r.f_blocks), .pv (.int .i64 r.f_parens)], oR true 9 1 (List.map z0p r.f_out)]

def z11 (r : z00) : List XV := []

def z12 (r : z00) : z0g := [oB 70 [.row 1, .pv (.bool r.f_form), .pv (.bool r.f_deep), .pv (.int .i64 r.f_blocks), .pv (.int .i64 r.f_parens)], oR true 9 1 (List.map z0p r.f_out)]

def z0i (r : z00) : List XV := []

def z0j (a1011 : z09) (r : z00) : z0g := [oB 70 [.row 1, .pv (.bool r.f_form), .pv (.bool r.f_deep), .pv (.int .i64 r.f_blocks), .pv (.int .i64 r.f_parens)], oR true 9 1 (List.map z0p r.f_out), oB 68 [.box 0 0], oB 102 (bs (z0d a1011))]

def z1a (r : z00) : List XV := []

def z1b (r : z00) : z0g := [oB 70 [.row 1, .pv (.bool r.f_form), .pv (.bool r.f_deep), .pv (.int .i64 r.f_blocks), .pv (.int .i64 r.f_parens)], oR true 9 1 (List.map z0p r.f_out)]

def z1m (r : z00) : List XV := []

def z1n (a1 : z09) (r : z00) : z0g := [oB 68 [.box 1 0], oB 70 [.row 2, .pv (.bool r.f_form), .pv (.bool r.f_deep), .pv (.int .i64 r.f_blocks), .pv (.int .i64 r.f_parens)], oR true 9 1 (List.map z0p r.f_out), oB 102 (bs (z0d a1))]

def z0k (r : z00) : List XV := []

def z0l (a1011 : z09) (r : z00) : z0g := [oB 70 [.row 1, .pv (.bool r.f_form), .pv (.bool r.f_deep), .pv (.int .i64 r.f_blocks), .pv (.int .i64 r.f_parens)], oR true 9 1 (List.map z0p r.f_out), oB 68 [.box 0 0], oB 102 (bs (z0d a1011))]

def z1q (r : z00) : List XV := []

def z1r (a1 : z09) (r : z00) : z0g := [oB 68 [.box 1 0], oB 70 [.row 2, .pv (.bool r.f_form), .pv (.bool r.f_deep), .pv (.int .i64 r.f_blocks), .pv (.int .i64 r.f_parens)], oR true 9 1 (List.map z0p r.f_out), oB 102 (bs (z0d a1))]

mutual
noncomputable def z0s : Nat → z00 → z09 → Option z00
  | 0, _, _ => none
  | n + 1, a0, a1 => ((if (a1.Kind == 3) then (some ((a1.Kids.length : Int) == 1))
 else (some false) : Option Bool) >>= fun j1 =>
 if j1 then (z03 a0 [(ByteArray.mk #[45])] >>= fun v1 =>
 (z0a n) v1 a1 >>= fun v2 =>
 some v2)
 else (((z6b a1.Kind >>= fun v3 =>
 if v3 then (some ((a1.Kids.length : Int) == 2))
 else (some false) : Option Bool) >>= fun j2 =>
 if j2 then (idx a1.Kids 0 >>= fun v4 =>
 idx a1.Kids 1 >>= fun v5 =>
 ((z6o a1.Kind >>= fun v6 =>
 if (!v6) then (z6o v4.Kind >>= fun v7 =>
 (z0u n) a0 v4 v7 >>= fun v8 =>
 some (v8.f_form, v8.f_deep, v8.f_blocks, v8.f_parens, v8.f_out))
 else ((z0u n) a0 v4 false >>= fun v9 =>
 some (v9.f_form, v9.f_deep, v9.f_blocks, v9.f_parens, v9.f_out)) : Option (Bool × Bool × Int × Int × (List ByteArray))) >>= fun j3 =>
 idx [(ByteArray.mk #[43]), (ByteArray.mk #[45]), (ByteArray.mk #[42]), (ByteArray.mk #[47]), (ByteArray.mk #[37])] (IntKind.i64.wrap (a1.Kind - 4)) >>= fun v10 =>
 z03 (z00.mk j3.2.2.2.2 j3.1 j3.2.1 j3.2.2.1 j3.2.2.2.1) [v10] >>= fun v11 =>
 z6o v5.Kind >>= fun v12 =>
 if v12 then ((z0u n) v11 v5 true >>= fun v13 =>
 some v13)
 else (z6o a1.Kind >>= fun v14 =>
 if (!v14) then (z6b v5.Kind >>= fun v15 =>
 (z0u n) v11 v5 v15 >>= fun v16 =>
 some v16)
 else ((z0u n) v11 v5 false >>= fun v17 =>
 some v17))))
 else (z3k a0 a1 >>= fun v18 =>
 some v18))))
noncomputable def z0a : Nat → z00 → z09 → Option z00
  | 0, _, _ => none
  | n + 1, a0, a1011 => ((if a0.f_deep then (some true)
 else (some (decide ((IntKind.i64.wrap (a0.f_parens + 1)) > 24))) : Option Bool) >>= fun j1 =>
 (z13 n) (z00.mk a0.f_out a0.f_form j1 a0.f_blocks (IntKind.i64.wrap (a0.f_parens + 1))) a1011 >>= fun v1 =>
 some (z00.mk v1.f_out v1.f_form v1.f_deep v1.f_blocks (IntKind.i64.wrap (v1.f_parens - 1))))
noncomputable def z0u : Nat → z00 → z09 → Bool → Option z00
  | 0, _, _, _ => none
  | n + 1, a0, a1, a2 => if (!a2) then ((z0s n) a0 a1 >>= fun v1 =>
 some v1)
 else (z03 a0 [(ByteArray.mk #[40])] >>= fun v2 =>
 (z0c n) v2 a1 >>= fun v3 =>
 z03 v3 [(ByteArray.mk #[41])] >>= fun v4 =>
 some v4)
noncomputable def z13 : Nat → z00 → z09 → Option z00
  | 0, _, _ => none
  | n + 1, a0, a1 => idx a1.Kids 0 >>= fun v1 =>
 z6b v1.Kind >>= fun v2 =>
 (z0u n) a0 v1 v2 >>= fun v3 =>
 some v3
noncomputable def z0c : Nat → z00 → z09 → Option z00
  | 0, _, _ => none
  | n + 1, a0, a1011 => ((if a0.f_deep then (some true)
 else (some (decide ((IntKind.i64.wrap (a0.f_parens + 1)) > 24))) : Option Bool) >>= fun j1 =>
 (z16 n) (z00.mk a0.f_out a0.f_form j1 a0.f_blocks (IntKind.i64.wrap (a0.f_parens + 1))) a1011 >>= fun v1 =>
 some (z00.mk v1.f_out v1.f_form v1.f_deep v1.f_blocks (IntKind.i64.wrap (v1.f_parens - 1))))
noncomputable def z16 : Nat → z00 → z09 → Option z00
  | 0, _, _ => none
  | n + 1, a0, a1 => (z0s n) a0 a1 >>= fun v1 =>
 some v1
end

noncomputable def z2s (a0 : z00) (a1 : z09) : Option z00 := unf fun n => z0s n a0 a1

noncomputable def z2t (a0 : z00) (a1 : z31) : Option z00 :=
 z03 a0 [(ByteArray.mk #[40])] >>= fun v1 =>
 z2s v1 a1.L >>= fun v2 =>
 ((if (decide (a1.Op < 1)) then (some true)
 else (some (decide (a1.Op > 6))) : Option Bool) >>= fun j1 =>
 if j1 then (z0z v2 false >>= fun v3 =>
 z2s v3 a1.R >>= fun v4 =>
 z03 v4 [(ByteArray.mk #[41])] >>= fun v5 =>
 some v5)
 else (idx [(ByteArray.mk #[61, 61]), (ByteArray.mk #[33, 61]), (ByteArray.mk #[60]), (ByteArray.mk #[60, 61]), (ByteArray.mk #[62]), (ByteArray.mk #[62, 61])] (IntKind.i64.wrap (a1.Op - 1)) >>= fun v6 =>
 z03 v2 [v6] >>= fun v7 =>
 z2s v7 a1.R >>= fun v8 =>
 z03 v8 [(ByteArray.mk #[41])] >>= fun v9 =>
 some v9))

def z3y (r : z00) : List XV := []

def z3z (r : z00) : z0g := [oB 70 [.row 1, .pv (.bool r.f_form), .pv (.bool r.f_deep), .pv (.int .i64 r.f_blocks), .pv (.int .i64 r.f_parens)], oR true 9 1 (List.map z0p r.f_out)]

noncomputable def z1z (F_ast_writer_stmts : z00 → (List z07) → Option z00) (F_ast_writer_stmt : z00 → z07 → Option z00) (F_ast_writer_block : z00 → (List z07) → Option z00) (F_ast_writer_arms : z00 → (List z1c) → Option z00) (a1 : (List z07)) (x1 : (Int × Bool × Bool × Int × Int × (List ByteArray))) : Option (Sum (Int × Bool × Bool × Int × Int × (List ByteArray)) (Sum z00 (Bool × Bool × Int × Int × (List ByteArray)))) :=
 if (decide (x1.1 < (a1.length : Int))) then (idx a1 x1.1 >>= fun v1 =>
 F_ast_writer_stmt (z00.mk x1.2.2.2.2.2 x1.2.1 x1.2.2.1 x1.2.2.2.1 x1.2.2.2.2.1) v1 >>= fun v2 =>
 some (.inl ((IntKind.i64.wrap (x1.1 + 1)), v2.f_form, v2.f_deep, v2.f_blocks, v2.f_parens, v2.f_out)))
 else (some (.inr (.inr (x1.2.1, x1.2.2.1, x1.2.2.2.1, x1.2.2.2.2.1, x1.2.2.2.2.2))))

def z1h (r : z00) : List XV := []

def z1i (r : z00) : z0g := [oB 70 [.row 1, .pv (.bool r.f_form), .pv (.bool r.f_deep), .pv (.int .i64 r.f_blocks), .pv (.int .i64 r.f_parens)], oR true 9 1 (List.map z0p r.f_out)]

noncomputable def z83 (r : z00) : Tg := .r false Tryd.f21.results.toList 2 (z1h r) (z1i r)

def z2g (r : z00) : List XV := []

def z2h (r : z00) : z0g := [oB 70 [.row 1, .pv (.bool r.f_form), .pv (.bool r.f_deep), .pv (.int .i64 r.f_blocks), .pv (.int .i64 r.f_parens)], oR true 9 1 (List.map z0p r.f_out)]

def z1j (r : z00) : List XV := []

def z1k (r : z00) : z0g := [oB 70 [.row 1, .pv (.bool r.f_form), .pv (.bool r.f_deep), .pv (.int .i64 r.f_blocks), .pv (.int .i64 r.f_parens)], oR true 9 1 (List.map z0p r.f_out)]

noncomputable def z2a (F_ast_writer_stmts : z00 → (List z07) → Option z00) (F_ast_writer_stmt : z00 → z07 → Option z00) (F_ast_writer_block : z00 → (List z07) → Option z00) (F_ast_writer_arms : z00 → (List z1c) → Option z00) (a1 : (List z1c)) (x1 : (Int × Bool × Bool × Int × Int × (List ByteArray))) : Option (Sum (Int × Bool × Bool × Int × Int × (List ByteArray)) (Sum z00 (Bool × Bool × Int × Int × (List ByteArray)))) :=
 if (decide (x1.1 < (a1.length : Int))) then (idx a1 x1.1 >>= fun v3 =>
 z0h (z00.mk x1.2.2.2.2.2 x1.2.1 x1.2.2.1 x1.2.2.2.1 x1.2.2.2.2.1) v3.Tag >>= fun v4 =>
 z03 v4 [(ByteArray.mk #[40])] >>= fun v5 =>
 z0h v5 v3.Var >>= fun v6 =>
 z03 v6 [(ByteArray.mk #[41])] >>= fun v7 =>
 F_ast_writer_block v7 v3.Body >>= fun v8 =>
 some (.inl ((IntKind.i64.wrap (x1.1 + 1)), v8.f_form, v8.f_deep, v8.f_blocks, v8.f_parens, v8.f_out)))
 else (some (.inr (.inr (x1.2.1, x1.2.2.1, x1.2.2.2.1, x1.2.2.2.2.1, x1.2.2.2.2.2))))

def z24 (r : z00) : List XV := []

def z25 (r : z00) : z0g := [oB 70 [.row 1, .pv (.bool r.f_form), .pv (.bool r.f_deep), .pv (.int .i64 r.f_blocks), .pv (.int .i64 r.f_parens)], oR true 9 1 (List.map z0p r.f_out)]

noncomputable def z8v (r : z00) : Tg := .r false Tryd.f42.results.toList 2 (z24 r) (z25 r)

mutual
noncomputable def z0t : Nat → z00 → (List z07) → Option z00
  | 0, _, _ => none
  | n + 1, a0, a1 => iter (z1z (z0t n) (z0w n) (z0o n) (z0y n) a1) (0, a0.f_form, a0.f_deep, a0.f_blocks, a0.f_parens, a0.f_out) >>= Sum.elim (fun _ => none) (fun j1 =>
 some (z00.mk j1.2.2.2.2 j1.1 j1.2.1 j1.2.2.1 j1.2.2.2.1))
noncomputable def z0w : Nat → z00 → z07 → Option z00
  | 0, _, _ => none
  | n + 1, a0, a1 => if (a1.Kind == 1) then (z0h a0 a1.Name >>= fun v1 =>
 z03 v1 [(ByteArray.mk #[61])] >>= fun v2 =>
 z2s v2 a1.E >>= fun v3 =>
 z03 v3 [(ByteArray.mk #[59])] >>= fun v4 =>
 some v4)
 else (if (a1.Kind == 2) then (z03 a0 [(ByteArray.mk #[105, 102])] >>= fun v5 =>
 z2t v5 a1.C >>= fun v6 =>
 (z0o n) v6 a1.Body >>= fun v7 =>
 if (decide ((a1.Else.length : Int) > 0)) then (z03 v7 [(ByteArray.mk #[101, 108, 115, 101])] >>= fun v8 =>
 (z0o n) v8 a1.Else >>= fun v9 =>
 some v9)
 else (some v7))
 else (if (a1.Kind == 3) then (z03 a0 [(ByteArray.mk #[119, 104, 105, 108, 101])] >>= fun v10 =>
 z2t v10 a1.C >>= fun v11 =>
 (z0o n) v11 a1.Body >>= fun v12 =>
 some v12)
 else (if (a1.Kind == 4) then (z03 a0 [(ByteArray.mk #[115, 101, 110, 100])] >>= fun v13 =>
 z0h v13 a1.Name >>= fun v14 =>
 z03 v14 [(ByteArray.mk #[46])] >>= fun v15 =>
 z0h v15 a1.Tag >>= fun v16 =>
 z03 v16 [(ByteArray.mk #[40])] >>= fun v17 =>
 z2s v17 a1.E >>= fun v18 =>
 z03 v18 [(ByteArray.mk #[41]), (ByteArray.mk #[59])] >>= fun v19 =>
 some v19)
 else (if (a1.Kind == 5) then (z03 a0 [(ByteArray.mk #[114, 101, 99, 118])] >>= fun v20 =>
 z0h v20 a1.Name >>= fun v21 =>
 (z0y n) v21 a1.Arms >>= fun v22 =>
 some v22)
 else (if (a1.Kind == 6) then (z03 a0 [(ByteArray.mk #[97, 115, 115, 101, 114, 116])] >>= fun v23 =>
 z2t v23 a1.C >>= fun v24 =>
 z03 v24 [(ByteArray.mk #[59])] >>= fun v25 =>
 some v25)
 else (if (a1.Kind == 7) then (z03 a0 [(ByteArray.mk #[105, 110, 112, 117, 116])] >>= fun v26 =>
 z0h v26 a1.Name >>= fun v27 =>
 z03 v27 [(ByteArray.mk #[59])] >>= fun v28 =>
 some v28)
 else (z0z a0 false >>= fun v29 =>
 some v29)))))))
noncomputable def z0o : Nat → z00 → (List z07) → Option z00
  | 0, _, _ => none
  | n + 1, a0, a1 => z03 a0 [(ByteArray.mk #[123])] >>= fun v1 =>
 ((if v1.f_deep then (some true)
 else (some (decide ((IntKind.i64.wrap (v1.f_blocks + 1)) > 24))) : Option Bool) >>= fun j1 =>
 (z0t n) (z00.mk v1.f_out v1.f_form j1 (IntKind.i64.wrap (v1.f_blocks + 1)) v1.f_parens) a1 >>= fun v2 =>
 z03 (z00.mk v2.f_out v2.f_form v2.f_deep (IntKind.i64.wrap (v2.f_blocks - 1)) v2.f_parens) [(ByteArray.mk #[125])] >>= fun v3 =>
 some v3)
noncomputable def z0y : Nat → z00 → (List z1c) → Option z00
  | 0, _, _ => none
  | n + 1, a0, a1 => z0z a0 (decide ((a1.length : Int) > 0)) >>= fun v1 =>
 z03 v1 [(ByteArray.mk #[123])] >>= fun v2 =>
 iter (z2a (z0t n) (z0w n) (z0o n) (z0y n) a1) (0, v2.f_form, v2.f_deep, v2.f_blocks, v2.f_parens, v2.f_out) >>= Sum.elim (fun _ => none) (fun j1 =>
 z03 (z00.mk j1.2.2.2.2 j1.1 j1.2.1 j1.2.2.1 j1.2.2.2.1) [(ByteArray.mk #[125])] >>= fun v9 =>
 some v9)
end

noncomputable def z4b (a0 : z00) (a1 : (List z07)) : Option z00 := unf fun n => z0t n a0 a1

noncomputable def z2p (a1 : z2r) (x1 : (Int × Bool × Bool × Int × Int × (List ByteArray))) : Option (Sum (Int × Bool × Bool × Int × Int × (List ByteArray)) (Sum z00 (Bool × Bool × Int × Int × (List ByteArray)))) :=
 if (decide (x1.1 < (a1.Vars.length : Int))) then (idx a1.Vars x1.1 >>= fun v4 =>
 z03 (z00.mk x1.2.2.2.2.2 x1.2.1 x1.2.2.1 x1.2.2.2.1 x1.2.2.2.2.1) [(ByteArray.mk #[118, 97, 114])] >>= fun v5 =>
 z0h v5 v4 >>= fun v6 =>
 z03 v6 [(ByteArray.mk #[59])] >>= fun v7 =>
 some (.inl ((IntKind.i64.wrap (x1.1 + 1)), v7.f_form, v7.f_deep, v7.f_blocks, v7.f_parens, v7.f_out)))
 else (some (.inr (.inr (x1.2.1, x1.2.2.1, x1.2.2.2.1, x1.2.2.2.2.1, x1.2.2.2.2.2))))

noncomputable def z3b (a0 : z00) (a1 : z2r) : Option z00 :=
 z03 a0 [(ByteArray.mk #[112, 114, 111, 99])] >>= fun v1 =>
 z0h v1 a1.Name >>= fun v2 =>
 z03 v2 [(ByteArray.mk #[123])] >>= fun v3 =>
 iter (z2p a1) (0, v3.f_form, v3.f_deep, v3.f_blocks, v3.f_parens, v3.f_out) >>= Sum.elim (fun _ => none) (fun j1 =>
 z4b (z00.mk j1.2.2.2.2 j1.1 j1.2.1 j1.2.2.1 j1.2.2.2.1) a1.Body >>= fun v8 =>
 z03 v8 [(ByteArray.mk #[125])] >>= fun v9 =>
 some v9)

def z4t (r : z00) : List XV := []

def z4u (r : z00) : z0g := [oB 70 [.row 1, .pv (.bool r.f_form), .pv (.bool r.f_deep), .pv (.int .i64 r.f_blocks), .pv (.int .i64 r.f_parens)], oR true 9 1 (List.map z0p r.f_out)]

noncomputable def z8w (r : z00) : Tg := .r false Tryd.f12.results.toList 2 (z4t r) (z4u r)

noncomputable def z3l (a0 : z1d) (x1 : (Int × Bool × Bool × Int × Int × (List ByteArray))) : Option (Sum (Int × Bool × Bool × Int × Int × (List ByteArray)) (Sum ((List ByteArray) × Int) (Bool × Bool × Int × Int × (List ByteArray)))) :=
 if (decide (x1.1 < (a0.Chans.length : Int))) then (idx a0.Chans x1.1 >>= fun v1 =>
 z2o (z00.mk x1.2.2.2.2.2 x1.2.1 x1.2.2.1 x1.2.2.2.1 x1.2.2.2.2.1) v1 >>= fun v2 =>
 some (.inl ((IntKind.i64.wrap (x1.1 + 1)), v2.f_form, v2.f_deep, v2.f_blocks, v2.f_parens, v2.f_out)))
 else (some (.inr (.inr (x1.2.1, x1.2.2.1, x1.2.2.2.1, x1.2.2.2.2.1, x1.2.2.2.2.2))))

noncomputable def z3m (a0 : z1d) (x2 : (Int × Bool × Bool × Int × Int × (List ByteArray))) : Option (Sum (Int × Bool × Bool × Int × Int × (List ByteArray)) (Sum ((List ByteArray) × Int) (Bool × Bool × Int × Int × (List ByteArray)))) :=
 if (decide (x2.1 < (a0.Rules.length : Int))) then (idx a0.Rules x2.1 >>= fun v3 =>
 z3a (z00.mk x2.2.2.2.2.2 x2.2.1 x2.2.2.1 x2.2.2.2.1 x2.2.2.2.2.1) v3 >>= fun v4 =>
 some (.inl ((IntKind.i64.wrap (x2.1 + 1)), v4.f_form, v4.f_deep, v4.f_blocks, v4.f_parens, v4.f_out)))
 else (some (.inr (.inr (x2.2.1, x2.2.2.1, x2.2.2.2.1, x2.2.2.2.2.1, x2.2.2.2.2.2))))

noncomputable def z3n (a0 : z1d) (x3 : (Int × Bool × Bool × Int × Int × (List ByteArray))) : Option (Sum (Int × Bool × Bool × Int × Int × (List ByteArray)) (Sum ((List ByteArray) × Int) (Bool × Bool × Int × Int × (List ByteArray)))) :=
 if (decide (x3.1 < (a0.Procs.length : Int))) then (idx a0.Procs x3.1 >>= fun v5 =>
 z3b (z00.mk x3.2.2.2.2.2 x3.2.1 x3.2.2.1 x3.2.2.2.1 x3.2.2.2.2.1) v5 >>= fun v6 =>
 some (.inl ((IntKind.i64.wrap (x3.1 + 1)), v6.f_form, v6.f_deep, v6.f_blocks, v6.f_parens, v6.f_out)))
 else (some (.inr (.inr (x3.2.1, x3.2.2.1, x3.2.2.2.1, x3.2.2.2.2.1, x3.2.2.2.2.2))))

noncomputable def z6p (a0 : z1d) : Option ((List ByteArray) × Int) :=
 iter (z3l a0) (0, false, false, 0, 0, []) >>= Sum.elim (fun _ => none) (fun j1 =>
 iter (z3m a0) (0, j1.1, j1.2.1, j1.2.2.1, j1.2.2.2.1, j1.2.2.2.2) >>= Sum.elim (fun _ => none) (fun j2 =>
 iter (z3n a0) (0, j2.1, j2.2.1, j2.2.2.1, j2.2.2.2.1, j2.2.2.2.2) >>= Sum.elim (fun _ => none) (fun j3 =>
 if j3.1 then (some ([], 5))
 else (if j3.2.1 then (some ([], 6))
 else (if (decide ((j3.2.2.2.2.length : Int) > 2000)) then (some ([], 4))
 else (some (j3.2.2.2.2, 0)))))))

def z7l (r : ((List ByteArray) × Int)) : List XV := [xL (List.map z0p r.1), xI r.2]

def zaf (r : ((List ByteArray) × Int)) : z0g := []

noncomputable def z7m (r : ((List ByteArray) × Int)) : Tg := .r false Tryd.f5.results.toList 0 (z7l r) (zaf r)

noncomputable def z2j (a0 : z1d) : Option (ByteArray × Int) :=
 z6p a0 >>= fun q => if (z4v q.1).length ≤ 140737488355328 then some (zio q.1, q.2) else none

def z2i (r : (ByteArray × Int)) : List XV := [xS r.1, xI r.2]

noncomputable def z2b : Option Bool :=
 z1o (z19.mk [] [] [(z2w.mk (ByteArray.mk #[112]) [] [(z0b.mk 1 (ByteArray.mk #[120]) (ByteArray.mk #[]) (z02.mk 6 0 (ByteArray.mk #[]) [(z02.mk 4 0 (ByteArray.mk #[]) [(z02.mk 2 0 (ByteArray.mk #[97]) []), (z02.mk 1 1 (ByteArray.mk #[]) [])]), (z02.mk 1 2 (ByteArray.mk #[]) [])]) (z0x.mk 0 (z02.mk 0 0 (ByteArray.mk #[]) []) (z02.mk 0 0 (ByteArray.mk #[]) [])) [] [] [])])]) >>= fun v1 =>
 z2j v1 >>= fun v2 =>
 if (v2.2 == 0) then (some (v2.1.toList == (ByteArray.mk #[112, 114, 111, 99, 32, 112, 32, 123, 32, 120, 32, 61, 32, 40, 32, 97, 32, 43, 32, 49, 32, 41, 32, 42, 32, 50, 32, 59, 32, 125, 32]).toList))
 else (some false)

def z0e (r : Bool) : List XV := [xB r]

def ze2 (r : Bool) : z0g := []

noncomputable def z5q (a0 : ByteArray) (a1 : Int) : Option Bool :=
 ssub a0 0 (min (a0.size : Int) 20) >>= fun v1 =>
 rem (IntKind.u64.wrap a1) 12 >>= fun v2 =>
 if ((IntKind.i64.wrap v2) == 0) then (z39 v1 >>= fun v3 =>
 ((if (v3.2.2 == 0) then (if ((v3.1.length : Int) == 1) then (idx v3.1 0 >>= fun v4 =>
 if (v4.Kind == 1) then (idx v3.1 0 >>= fun v5 =>
 some (v5.Text.toList == v1.toList))
 else (some false))
 else (some false))
 else (some false) : Option Bool) >>= fun j1 =>
 z1o (z19.mk [(z35.mk v1 0 1 (ByteArray.mk #[112]) (ByteArray.mk #[113]) [(ByteArray.mk #[97])])] [(z36.mk (ByteArray.mk #[99]) [(z1p.mk 0 (ByteArray.mk #[97]) 0)])] [(z2w.mk (ByteArray.mk #[112]) [(ByteArray.mk #[120])] [(z0b.mk 7 (ByteArray.mk #[120]) (ByteArray.mk #[]) (z02.mk 0 0 (ByteArray.mk #[]) []) (z0x.mk 0 (z02.mk 0 0 (ByteArray.mk #[]) []) (z02.mk 0 0 (ByteArray.mk #[]) [])) [] [] []), (z0b.mk 4 (ByteArray.mk #[99]) (ByteArray.mk #[97]) (z02.mk 2 0 (ByteArray.mk #[120]) []) (z0x.mk 0 (z02.mk 0 0 (ByteArray.mk #[]) []) (z02.mk 0 0 (ByteArray.mk #[]) [])) [] [] []), (z0b.mk 5 (ByteArray.mk #[99]) (ByteArray.mk #[]) (z02.mk 0 0 (ByteArray.mk #[]) []) (z0x.mk 0 (z02.mk 0 0 (ByteArray.mk #[]) []) (z02.mk 0 0 (ByteArray.mk #[]) [])) [] [] [(z26.mk (ByteArray.mk #[97]) (ByteArray.mk #[120]) [])])])]) >>= fun v6 =>
 z2j v6 >>= fun v7 =>
 z2b >>= fun v8 =>
 if v8 then (if ((v7.2 == 0) == j1) then (if (v7.2 == 0) then (some true)
 else (some (v7.2 == 5)))
 else (some false))
 else (some false)))
 else (if ((IntKind.i64.wrap v2) == 1) then (z39 v1 >>= fun v9 =>
 ((if (v9.2.2 == 0) then (if ((v9.1.length : Int) == 1) then (idx v9.1 0 >>= fun v10 =>
 if (v10.Kind == 1) then (idx v9.1 0 >>= fun v11 =>
 some (v11.Text.toList == v1.toList))
 else (some false))
 else (some false))
 else (some false) : Option Bool) >>= fun j2 =>
 z1o (z19.mk [(z35.mk (ByteArray.mk #[99]) 0 1 v1 (ByteArray.mk #[113]) [(ByteArray.mk #[97])])] [(z36.mk (ByteArray.mk #[99]) [(z1p.mk 0 (ByteArray.mk #[97]) 0)])] [(z2w.mk (ByteArray.mk #[112]) [(ByteArray.mk #[120])] [(z0b.mk 7 (ByteArray.mk #[120]) (ByteArray.mk #[]) (z02.mk 0 0 (ByteArray.mk #[]) []) (z0x.mk 0 (z02.mk 0 0 (ByteArray.mk #[]) []) (z02.mk 0 0 (ByteArray.mk #[]) [])) [] [] []), (z0b.mk 4 (ByteArray.mk #[99]) (ByteArray.mk #[97]) (z02.mk 2 0 (ByteArray.mk #[120]) []) (z0x.mk 0 (z02.mk 0 0 (ByteArray.mk #[]) []) (z02.mk 0 0 (ByteArray.mk #[]) [])) [] [] []), (z0b.mk 5 (ByteArray.mk #[99]) (ByteArray.mk #[]) (z02.mk 0 0 (ByteArray.mk #[]) []) (z0x.mk 0 (z02.mk 0 0 (ByteArray.mk #[]) []) (z02.mk 0 0 (ByteArray.mk #[]) [])) [] [] [(z26.mk (ByteArray.mk #[97]) (ByteArray.mk #[120]) [])])])]) >>= fun v12 =>
 z2j v12 >>= fun v13 =>
 z2b >>= fun v14 =>
 if v14 then (if ((v13.2 == 0) == j2) then (if (v13.2 == 0) then (some true)
 else (some (v13.2 == 5)))
 else (some false))
 else (some false)))
 else (if ((IntKind.i64.wrap v2) == 2) then (z39 v1 >>= fun v15 =>
 ((if (v15.2.2 == 0) then (if ((v15.1.length : Int) == 1) then (idx v15.1 0 >>= fun v16 =>
 if (v16.Kind == 1) then (idx v15.1 0 >>= fun v17 =>
 some (v17.Text.toList == v1.toList))
 else (some false))
 else (some false))
 else (some false) : Option Bool) >>= fun j3 =>
 z1o (z19.mk [(z35.mk (ByteArray.mk #[99]) 0 1 (ByteArray.mk #[112]) v1 [(ByteArray.mk #[97])])] [(z36.mk (ByteArray.mk #[99]) [(z1p.mk 0 (ByteArray.mk #[97]) 0)])] [(z2w.mk (ByteArray.mk #[112]) [(ByteArray.mk #[120])] [(z0b.mk 7 (ByteArray.mk #[120]) (ByteArray.mk #[]) (z02.mk 0 0 (ByteArray.mk #[]) []) (z0x.mk 0 (z02.mk 0 0 (ByteArray.mk #[]) []) (z02.mk 0 0 (ByteArray.mk #[]) [])) [] [] []), (z0b.mk 4 (ByteArray.mk #[99]) (ByteArray.mk #[97]) (z02.mk 2 0 (ByteArray.mk #[120]) []) (z0x.mk 0 (z02.mk 0 0 (ByteArray.mk #[]) []) (z02.mk 0 0 (ByteArray.mk #[]) [])) [] [] []), (z0b.mk 5 (ByteArray.mk #[99]) (ByteArray.mk #[]) (z02.mk 0 0 (ByteArray.mk #[]) []) (z0x.mk 0 (z02.mk 0 0 (ByteArray.mk #[]) []) (z02.mk 0 0 (ByteArray.mk #[]) [])) [] [] [(z26.mk (ByteArray.mk #[97]) (ByteArray.mk #[120]) [])])])]) >>= fun v18 =>
 z2j v18 >>= fun v19 =>
 z2b >>= fun v20 =>
 if v20 then (if ((v19.2 == 0) == j3) then (if (v19.2 == 0) then (some true)
 else (some (v19.2 == 5)))
 else (some false))
 else (some false)))
 else (if ((IntKind.i64.wrap v2) == 3) then (z39 v1 >>= fun v21 =>
 ((if (v21.2.2 == 0) then (if ((v21.1.length : Int) == 1) then (idx v21.1 0 >>= fun v22 =>
 if (v22.Kind == 1) then (idx v21.1 0 >>= fun v23 =>
 some (v23.Text.toList == v1.toList))
 else (some false))
 else (some false))
 else (some false) : Option Bool) >>= fun j4 =>
 z1o (z19.mk [(z35.mk (ByteArray.mk #[99]) 0 1 (ByteArray.mk #[112]) (ByteArray.mk #[113]) [v1])] [(z36.mk (ByteArray.mk #[99]) [(z1p.mk 0 (ByteArray.mk #[97]) 0)])] [(z2w.mk (ByteArray.mk #[112]) [(ByteArray.mk #[120])] [(z0b.mk 7 (ByteArray.mk #[120]) (ByteArray.mk #[]) (z02.mk 0 0 (ByteArray.mk #[]) []) (z0x.mk 0 (z02.mk 0 0 (ByteArray.mk #[]) []) (z02.mk 0 0 (ByteArray.mk #[]) [])) [] [] []), (z0b.mk 4 (ByteArray.mk #[99]) (ByteArray.mk #[97]) (z02.mk 2 0 (ByteArray.mk #[120]) []) (z0x.mk 0 (z02.mk 0 0 (ByteArray.mk #[]) []) (z02.mk 0 0 (ByteArray.mk #[]) [])) [] [] []), (z0b.mk 5 (ByteArray.mk #[99]) (ByteArray.mk #[]) (z02.mk 0 0 (ByteArray.mk #[]) []) (z0x.mk 0 (z02.mk 0 0 (ByteArray.mk #[]) []) (z02.mk 0 0 (ByteArray.mk #[]) [])) [] [] [(z26.mk (ByteArray.mk #[97]) (ByteArray.mk #[120]) [])])])]) >>= fun v24 =>
 z2j v24 >>= fun v25 =>
 z2b >>= fun v26 =>
 if v26 then (if ((v25.2 == 0) == j4) then (if (v25.2 == 0) then (some true)
 else (some (v25.2 == 5)))
 else (some false))
 else (some false)))
 else (if ((IntKind.i64.wrap v2) == 4) then (z39 v1 >>= fun v27 =>
 ((if (v27.2.2 == 0) then (if ((v27.1.length : Int) == 1) then (idx v27.1 0 >>= fun v28 =>
 if (v28.Kind == 1) then (idx v27.1 0 >>= fun v29 =>
 some (v29.Text.toList == v1.toList))
 else (some false))
 else (some false))
 else (some false) : Option Bool) >>= fun j5 =>
 z1o (z19.mk [(z35.mk (ByteArray.mk #[99]) 0 1 (ByteArray.mk #[112]) (ByteArray.mk #[113]) [(ByteArray.mk #[97])])] [(z36.mk v1 [(z1p.mk 0 (ByteArray.mk #[97]) 0)])] [(z2w.mk (ByteArray.mk #[112]) [(ByteArray.mk #[120])] [(z0b.mk 7 (ByteArray.mk #[120]) (ByteArray.mk #[]) (z02.mk 0 0 (ByteArray.mk #[]) []) (z0x.mk 0 (z02.mk 0 0 (ByteArray.mk #[]) []) (z02.mk 0 0 (ByteArray.mk #[]) [])) [] [] []), (z0b.mk 4 (ByteArray.mk #[99]) (ByteArray.mk #[97]) (z02.mk 2 0 (ByteArray.mk #[120]) []) (z0x.mk 0 (z02.mk 0 0 (ByteArray.mk #[]) []) (z02.mk 0 0 (ByteArray.mk #[]) [])) [] [] []), (z0b.mk 5 (ByteArray.mk #[99]) (ByteArray.mk #[]) (z02.mk 0 0 (ByteArray.mk #[]) []) (z0x.mk 0 (z02.mk 0 0 (ByteArray.mk #[]) []) (z02.mk 0 0 (ByteArray.mk #[]) [])) [] [] [(z26.mk (ByteArray.mk #[97]) (ByteArray.mk #[120]) [])])])]) >>= fun v30 =>
 z2j v30 >>= fun v31 =>
 z2b >>= fun v32 =>
 if v32 then (if ((v31.2 == 0) == j5) then (if (v31.2 == 0) then (some true)
 else (some (v31.2 == 5)))
 else (some false))
 else (some false)))
 else (if ((IntKind.i64.wrap v2) == 5) then (z39 v1 >>= fun v33 =>
 ((if (v33.2.2 == 0) then (if ((v33.1.length : Int) == 1) then (idx v33.1 0 >>= fun v34 =>
 if (v34.Kind == 1) then (idx v33.1 0 >>= fun v35 =>
 some (v35.Text.toList == v1.toList))
 else (some false))
 else (some false))
 else (some false) : Option Bool) >>= fun j6 =>
 z1o (z19.mk [(z35.mk (ByteArray.mk #[99]) 0 1 (ByteArray.mk #[112]) (ByteArray.mk #[113]) [(ByteArray.mk #[97])])] [(z36.mk (ByteArray.mk #[99]) [(z1p.mk 0 v1 0)])] [(z2w.mk (ByteArray.mk #[112]) [(ByteArray.mk #[120])] [(z0b.mk 7 (ByteArray.mk #[120]) (ByteArray.mk #[]) (z02.mk 0 0 (ByteArray.mk #[]) []) (z0x.mk 0 (z02.mk 0 0 (ByteArray.mk #[]) []) (z02.mk 0 0 (ByteArray.mk #[]) [])) [] [] []), (z0b.mk 4 (ByteArray.mk #[99]) (ByteArray.mk #[97]) (z02.mk 2 0 (ByteArray.mk #[120]) []) (z0x.mk 0 (z02.mk 0 0 (ByteArray.mk #[]) []) (z02.mk 0 0 (ByteArray.mk #[]) [])) [] [] []), (z0b.mk 5 (ByteArray.mk #[99]) (ByteArray.mk #[]) (z02.mk 0 0 (ByteArray.mk #[]) []) (z0x.mk 0 (z02.mk 0 0 (ByteArray.mk #[]) []) (z02.mk 0 0 (ByteArray.mk #[]) [])) [] [] [(z26.mk (ByteArray.mk #[97]) (ByteArray.mk #[120]) [])])])]) >>= fun v36 =>
 z2j v36 >>= fun v37 =>
 z2b >>= fun v38 =>
 if v38 then (if ((v37.2 == 0) == j6) then (if (v37.2 == 0) then (some true)
 else (some (v37.2 == 5)))
 else (some false))
 else (some false)))
 else (if ((IntKind.i64.wrap v2) == 6) then (z39 v1 >>= fun v39 =>
 ((if (v39.2.2 == 0) then (if ((v39.1.length : Int) == 1) then (idx v39.1 0 >>= fun v40 =>
 if (v40.Kind == 1) then (idx v39.1 0 >>= fun v41 =>
 some (v41.Text.toList == v1.toList))
 else (some false))
 else (some false))
 else (some false) : Option Bool) >>= fun j7 =>
 z1o (z19.mk [(z35.mk (ByteArray.mk #[99]) 0 1 (ByteArray.mk #[112]) (ByteArray.mk #[113]) [(ByteArray.mk #[97])])] [(z36.mk (ByteArray.mk #[99]) [(z1p.mk 0 (ByteArray.mk #[97]) 0)])] [(z2w.mk v1 [(ByteArray.mk #[120])] [(z0b.mk 7 (ByteArray.mk #[120]) (ByteArray.mk #[]) (z02.mk 0 0 (ByteArray.mk #[]) []) (z0x.mk 0 (z02.mk 0 0 (ByteArray.mk #[]) []) (z02.mk 0 0 (ByteArray.mk #[]) [])) [] [] []), (z0b.mk 4 (ByteArray.mk #[99]) (ByteArray.mk #[97]) (z02.mk 2 0 (ByteArray.mk #[120]) []) (z0x.mk 0 (z02.mk 0 0 (ByteArray.mk #[]) []) (z02.mk 0 0 (ByteArray.mk #[]) [])) [] [] []), (z0b.mk 5 (ByteArray.mk #[99]) (ByteArray.mk #[]) (z02.mk 0 0 (ByteArray.mk #[]) []) (z0x.mk 0 (z02.mk 0 0 (ByteArray.mk #[]) []) (z02.mk 0 0 (ByteArray.mk #[]) [])) [] [] [(z26.mk (ByteArray.mk #[97]) (ByteArray.mk #[120]) [])])])]) >>= fun v42 =>
 z2j v42 >>= fun v43 =>
 z2b >>= fun v44 =>
 if v44 then (if ((v43.2 == 0) == j7) then (if (v43.2 == 0) then (some true)
 else (some (v43.2 == 5)))
 else (some false))
 else (some false)))
 else (if ((IntKind.i64.wrap v2) == 7) then (z39 v1 >>= fun v45 =>
 ((if (v45.2.2 == 0) then (if ((v45.1.length : Int) == 1) then (idx v45.1 0 >>= fun v46 =>
 if (v46.Kind == 1) then (idx v45.1 0 >>= fun v47 =>
 some (v47.Text.toList == v1.toList))
 else (some false))
 else (some false))
 else (some false) : Option Bool) >>= fun j8 =>
 z1o (z19.mk [(z35.mk (ByteArray.mk #[99]) 0 1 (ByteArray.mk #[112]) (ByteArray.mk #[113]) [(ByteArray.mk #[97])])] [(z36.mk (ByteArray.mk #[99]) [(z1p.mk 0 (ByteArray.mk #[97]) 0)])] [(z2w.mk (ByteArray.mk #[112]) [v1] [(z0b.mk 7 (ByteArray.mk #[120]) (ByteArray.mk #[]) (z02.mk 0 0 (ByteArray.mk #[]) []) (z0x.mk 0 (z02.mk 0 0 (ByteArray.mk #[]) []) (z02.mk 0 0 (ByteArray.mk #[]) [])) [] [] []), (z0b.mk 4 (ByteArray.mk #[99]) (ByteArray.mk #[97]) (z02.mk 2 0 (ByteArray.mk #[120]) []) (z0x.mk 0 (z02.mk 0 0 (ByteArray.mk #[]) []) (z02.mk 0 0 (ByteArray.mk #[]) [])) [] [] []), (z0b.mk 5 (ByteArray.mk #[99]) (ByteArray.mk #[]) (z02.mk 0 0 (ByteArray.mk #[]) []) (z0x.mk 0 (z02.mk 0 0 (ByteArray.mk #[]) []) (z02.mk 0 0 (ByteArray.mk #[]) [])) [] [] [(z26.mk (ByteArray.mk #[97]) (ByteArray.mk #[120]) [])])])]) >>= fun v48 =>
 z2j v48 >>= fun v49 =>
 z2b >>= fun v50 =>
 if v50 then (if ((v49.2 == 0) == j8) then (if (v49.2 == 0) then (some true)
 else (some (v49.2 == 5)))
 else (some false))
 else (some false)))
 else (if ((IntKind.i64.wrap v2) == 8) then (z39 v1 >>= fun v51 =>
 ((if (v51.2.2 == 0) then (if ((v51.1.length : Int) == 1) then (idx v51.1 0 >>= fun v52 =>
 if (v52.Kind == 1) then (idx v51.1 0 >>= fun v53 =>
 some (v53.Text.toList == v1.toList))
 else (some false))
 else (some false))
 else (some false) : Option Bool) >>= fun j9 =>
 z1o (z19.mk [(z35.mk (ByteArray.mk #[99]) 0 1 (ByteArray.mk #[112]) (ByteArray.mk #[113]) [(ByteArray.mk #[97])])] [(z36.mk (ByteArray.mk #[99]) [(z1p.mk 0 (ByteArray.mk #[97]) 0)])] [(z2w.mk (ByteArray.mk #[112]) [(ByteArray.mk #[120])] [(z0b.mk 7 v1 (ByteArray.mk #[]) (z02.mk 0 0 (ByteArray.mk #[]) []) (z0x.mk 0 (z02.mk 0 0 (ByteArray.mk #[]) []) (z02.mk 0 0 (ByteArray.mk #[]) [])) [] [] []), (z0b.mk 4 (ByteArray.mk #[99]) (ByteArray.mk #[97]) (z02.mk 2 0 (ByteArray.mk #[120]) []) (z0x.mk 0 (z02.mk 0 0 (ByteArray.mk #[]) []) (z02.mk 0 0 (ByteArray.mk #[]) [])) [] [] []), (z0b.mk 5 (ByteArray.mk #[99]) (ByteArray.mk #[]) (z02.mk 0 0 (ByteArray.mk #[]) []) (z0x.mk 0 (z02.mk 0 0 (ByteArray.mk #[]) []) (z02.mk 0 0 (ByteArray.mk #[]) [])) [] [] [(z26.mk (ByteArray.mk #[97]) (ByteArray.mk #[120]) [])])])]) >>= fun v54 =>
 z2j v54 >>= fun v55 =>
 z2b >>= fun v56 =>
 if v56 then (if ((v55.2 == 0) == j9) then (if (v55.2 == 0) then (some true)
 else (some (v55.2 == 5)))
 else (some false))
 else (some false)))
 else (if ((IntKind.i64.wrap v2) == 9) then (z39 v1 >>= fun v57 =>
 ((if (v57.2.2 == 0) then (if ((v57.1.length : Int) == 1) then (idx v57.1 0 >>= fun v58 =>
 if (v58.Kind == 1) then (idx v57.1 0 >>= fun v59 =>
 some (v59.Text.toList == v1.toList))
 else (some false))
 else (some false))
 else (some false) : Option Bool) >>= fun j10 =>
 z1o (z19.mk [(z35.mk (ByteArray.mk #[99]) 0 1 (ByteArray.mk #[112]) (ByteArray.mk #[113]) [(ByteArray.mk #[97])])] [(z36.mk (ByteArray.mk #[99]) [(z1p.mk 0 (ByteArray.mk #[97]) 0)])] [(z2w.mk (ByteArray.mk #[112]) [(ByteArray.mk #[120])] [(z0b.mk 7 (ByteArray.mk #[120]) (ByteArray.mk #[]) (z02.mk 0 0 (ByteArray.mk #[]) []) (z0x.mk 0 (z02.mk 0 0 (ByteArray.mk #[]) []) (z02.mk 0 0 (ByteArray.mk #[]) [])) [] [] []), (z0b.mk 4 (ByteArray.mk #[99]) (ByteArray.mk #[97]) (z02.mk 2 0 v1 []) (z0x.mk 0 (z02.mk 0 0 (ByteArray.mk #[]) []) (z02.mk 0 0 (ByteArray.mk #[]) [])) [] [] []), (z0b.mk 5 (ByteArray.mk #[99]) (ByteArray.mk #[]) (z02.mk 0 0 (ByteArray.mk #[]) []) (z0x.mk 0 (z02.mk 0 0 (ByteArray.mk #[]) []) (z02.mk 0 0 (ByteArray.mk #[]) [])) [] [] [(z26.mk (ByteArray.mk #[97]) (ByteArray.mk #[120]) [])])])]) >>= fun v60 =>
 z2j v60 >>= fun v61 =>
 z2b >>= fun v62 =>
 if v62 then (if ((v61.2 == 0) == j10) then (if (v61.2 == 0) then (some true)
 else (some (v61.2 == 5)))
 else (some false))
 else (some false)))
 else (if ((IntKind.i64.wrap v2) == 10) then (z39 v1 >>= fun v63 =>
 ((if (v63.2.2 == 0) then (if ((v63.1.length : Int) == 1) then (idx v63.1 0 >>= fun v64 =>
 if (v64.Kind == 1) then (idx v63.1 0 >>= fun v65 =>
 some (v65.Text.toList == v1.toList))
 else (some false))
 else (some false))
 else (some false) : Option Bool) >>= fun j11 =>
 z1o (z19.mk [(z35.mk (ByteArray.mk #[99]) 0 1 (ByteArray.mk #[112]) (ByteArray.mk #[113]) [(ByteArray.mk #[97])])] [(z36.mk (ByteArray.mk #[99]) [(z1p.mk 0 (ByteArray.mk #[97]) 0)])] [(z2w.mk (ByteArray.mk #[112]) [(ByteArray.mk #[120])] [(z0b.mk 7 (ByteArray.mk #[120]) (ByteArray.mk #[]) (z02.mk 0 0 (ByteArray.mk #[]) []) (z0x.mk 0 (z02.mk 0 0 (ByteArray.mk #[]) []) (z02.mk 0 0 (ByteArray.mk #[]) [])) [] [] []), (z0b.mk 4 (ByteArray.mk #[99]) (ByteArray.mk #[97]) (z02.mk 2 0 (ByteArray.mk #[120]) []) (z0x.mk 0 (z02.mk 0 0 (ByteArray.mk #[]) []) (z02.mk 0 0 (ByteArray.mk #[]) [])) [] [] []), (z0b.mk 5 (ByteArray.mk #[99]) (ByteArray.mk #[]) (z02.mk 0 0 (ByteArray.mk #[]) []) (z0x.mk 0 (z02.mk 0 0 (ByteArray.mk #[]) []) (z02.mk 0 0 (ByteArray.mk #[]) [])) [] [] [(z26.mk v1 (ByteArray.mk #[120]) [])])])]) >>= fun v66 =>
 z2j v66 >>= fun v67 =>
 z2b >>= fun v68 =>
 if v68 then (if ((v67.2 == 0) == j11) then (if (v67.2 == 0) then (some true)
 else (some (v67.2 == 5)))
 else (some false))
 else (some false)))
 else (if ((IntKind.i64.wrap v2) == 11) then (z39 v1 >>= fun v69 =>
 ((if (v69.2.2 == 0) then (if ((v69.1.length : Int) == 1) then (idx v69.1 0 >>= fun v70 =>
 if (v70.Kind == 1) then (idx v69.1 0 >>= fun v71 =>
 some (v71.Text.toList == v1.toList))
 else (some false))
 else (some false))
 else (some false) : Option Bool) >>= fun j12 =>
 z1o (z19.mk [(z35.mk (ByteArray.mk #[99]) 0 1 (ByteArray.mk #[112]) (ByteArray.mk #[113]) [(ByteArray.mk #[97])])] [(z36.mk (ByteArray.mk #[99]) [(z1p.mk 0 (ByteArray.mk #[97]) 0)])] [(z2w.mk (ByteArray.mk #[112]) [(ByteArray.mk #[120])] [(z0b.mk 7 (ByteArray.mk #[120]) (ByteArray.mk #[]) (z02.mk 0 0 (ByteArray.mk #[]) []) (z0x.mk 0 (z02.mk 0 0 (ByteArray.mk #[]) []) (z02.mk 0 0 (ByteArray.mk #[]) [])) [] [] []), (z0b.mk 4 (ByteArray.mk #[99]) (ByteArray.mk #[97]) (z02.mk 2 0 (ByteArray.mk #[120]) []) (z0x.mk 0 (z02.mk 0 0 (ByteArray.mk #[]) []) (z02.mk 0 0 (ByteArray.mk #[]) [])) [] [] []), (z0b.mk 5 (ByteArray.mk #[99]) (ByteArray.mk #[]) (z02.mk 0 0 (ByteArray.mk #[]) []) (z0x.mk 0 (z02.mk 0 0 (ByteArray.mk #[]) []) (z02.mk 0 0 (ByteArray.mk #[]) [])) [] [] [(z26.mk (ByteArray.mk #[97]) v1 [])])])]) >>= fun v72 =>
 z2j v72 >>= fun v73 =>
 z2b >>= fun v74 =>
 if v74 then (if ((v73.2 == 0) == j12) then (if (v73.2 == 0) then (some true)
 else (some (v73.2 == 5)))
 else (some false))
 else (some false)))
 else (z39 v1 >>= fun v75 =>
 ((if (v75.2.2 == 0) then (if ((v75.1.length : Int) == 1) then (idx v75.1 0 >>= fun v76 =>
 if (v76.Kind == 1) then (idx v75.1 0 >>= fun v77 =>
 some (v77.Text.toList == v1.toList))
 else (some false))
 else (some false))
 else (some false) : Option Bool) >>= fun j13 =>
 z1o (z19.mk [(z35.mk (ByteArray.mk #[99]) 0 1 (ByteArray.mk #[112]) (ByteArray.mk #[113]) [(ByteArray.mk #[97])])] [(z36.mk (ByteArray.mk #[99]) [(z1p.mk 0 (ByteArray.mk #[97]) 0)])] [(z2w.mk (ByteArray.mk #[112]) [(ByteArray.mk #[120])] [(z0b.mk 7 (ByteArray.mk #[120]) (ByteArray.mk #[]) (z02.mk 0 0 (ByteArray.mk #[]) []) (z0x.mk 0 (z02.mk 0 0 (ByteArray.mk #[]) []) (z02.mk 0 0 (ByteArray.mk #[]) [])) [] [] []), (z0b.mk 4 (ByteArray.mk #[99]) (ByteArray.mk #[97]) (z02.mk 2 0 (ByteArray.mk #[120]) []) (z0x.mk 0 (z02.mk 0 0 (ByteArray.mk #[]) []) (z02.mk 0 0 (ByteArray.mk #[]) [])) [] [] []), (z0b.mk 5 (ByteArray.mk #[99]) (ByteArray.mk #[]) (z02.mk 0 0 (ByteArray.mk #[]) []) (z0x.mk 0 (z02.mk 0 0 (ByteArray.mk #[]) []) (z02.mk 0 0 (ByteArray.mk #[]) [])) [] [] [(z26.mk (ByteArray.mk #[97]) (ByteArray.mk #[120]) [])])])]) >>= fun v78 =>
 z2j v78 >>= fun v79 =>
 z2b >>= fun v80 =>
 if v80 then (if ((v79.2 == 0) == j13) then (if (v79.2 == 0) then (some true)
 else (some (v79.2 == 5)))
 else (some false))
 else (some false))))))))))))))

def z7b (r : Bool) : List XV := [xB r]

def zaq (r : Bool) : z0g := []

end Go.Proofs.YtnfjgjomokloaaaDoor.Abs
