/- Gw: the functions, told by typed values. -/
import Derived.Test.YtokjbpmjdcbogaaGreatDoorHandT
import Derived.Test.YtokjbpmjdcbogaaGreatDoorProg
namespace Go.Proofs.YtokjbpmjdcbogaaGreatDoor.Abs
open Go Go.RowKit
set_option linter.unusedVariables false

structure z33 where
 Name : ByteArray
 Kind : Int
 Size : Int
 From : ByteArray
 To : ByteArray
 Tags : (List ByteArray)
structure z4h where
 From : Int
 Tag : ByteArray
 To : Int
structure z3b where
 Chan : ByteArray
 Moves : (List z4h)
structure z05 where
 Kind : Int
 Num : Int
 Name : ByteArray
 Kids : (List z05)
structure z41 where
 Op : Int
 L : z05
 R : z05
mutual
inductive z13 where
 | mk (Tag : ByteArray) (Var : ByteArray) (Body : (List z04))
inductive z04 where
 | mk (Kind : Int) (Name : ByteArray) (Tag : ByteArray) (E : z05) (C : z41) (Body : (List z04)) (Else : (List z04)) (Arms : (List z13))
end
def z13.Tag : z13 → ByteArray
 | .mk x _ _ => x
def z13.Var : z13 → ByteArray
 | .mk _ x _ => x
def z13.Body : z13 → (List z04)
 | .mk _ _ x => x
def z04.Kind : z04 → Int
 | .mk x _ _ _ _ _ _ _ => x
def z04.Name : z04 → ByteArray
 | .mk _ x _ _ _ _ _ _ => x
def z04.Tag : z04 → ByteArray
 | .mk _ _ x _ _ _ _ _ => x
def z04.E : z04 → z05
 | .mk _ _ _ x _ _ _ _ => x
def z04.C : z04 → z41
 | .mk _ _ _ _ x _ _ _ => x
def z04.Body : z04 → (List z04)
 | .mk _ _ _ _ _ x _ _ => x
def z04.Else : z04 → (List z04)
 | .mk _ _ _ _ _ _ x _ => x
def z04.Arms : z04 → (List z13)
 | .mk _ _ _ _ _ _ _ x => x
structure z3f where
 Name : ByteArray
 Vars : (List ByteArray)
 Body : (List z04)
structure z3g where
 Name : ByteArray
 Kind : Int
 Size : Int
 From : ByteArray
 To : ByteArray
 Tags : (List ByteArray)
structure z5m where
 From : Int
 Tag : ByteArray
 To : Int
structure z4q where
 Chan : ByteArray
 Moves : (List z5m)
structure z07 where
 Kind : Int
 Num : Int
 Name : ByteArray
 Kids : (List z07)
structure z2b where
 Op : Int
 L : z07
 R : z07
mutual
inductive z24 where
 | mk (Tag : ByteArray) (Var : ByteArray) (Body : (List z03))
inductive z03 where
 | mk (Kind : Int) (Name : ByteArray) (Tag : ByteArray) (E : z07) (C : z2b) (Body : (List z03)) (Else : (List z03)) (Arms : (List z24))
end
def z24.Tag : z24 → ByteArray
 | .mk x _ _ => x
def z24.Var : z24 → ByteArray
 | .mk _ x _ => x
def z24.Body : z24 → (List z03)
 | .mk _ _ x => x
def z03.Kind : z03 → Int
 | .mk x _ _ _ _ _ _ _ => x
def z03.Name : z03 → ByteArray
 | .mk _ x _ _ _ _ _ _ => x
def z03.Tag : z03 → ByteArray
 | .mk _ _ x _ _ _ _ _ => x
def z03.E : z03 → z07
 | .mk _ _ _ x _ _ _ _ => x
def z03.C : z03 → z2b
 | .mk _ _ _ _ x _ _ _ => x
def z03.Body : z03 → (List z03)
 | .mk _ _ _ _ _ x _ _ => x
def z03.Else : z03 → (List z03)
 | .mk _ _ _ _ _ _ x _ => x
def z03.Arms : z03 → (List z24)
 | .mk _ _ _ _ _ _ _ x => x
structure z42 where
 Name : ByteArray
 Vars : (List ByteArray)
 Body : (List z03)
structure z0e where
 Kind : Int
 Text : ByteArray
 Num : Int
 At : Int
structure z0n where
 Kind : Int
 Text : ByteArray
 Num : Int
 At : Int
structure z0s where
 Chans : (List z3g)
 Rules : (List z4q)
 Procs : (List z42)
def z1j (x : ByteArray) : List PV := [.str x]
def z3d (x : z3g) : List PV := [.str x.Name, .int .i64 x.Kind, .int .i64 x.Size, .str x.From, .str x.To, .sl (List.map z1j x.Tags)]
def z0t (x : z0n) : List PV := [.int .i64 x.Kind, .str x.Text, .int .i64 x.Num, .int .i64 x.At]
def z5y (x : z5m) : List PV := [.int .i64 x.From, .str x.Tag, .int .i64 x.To]
def z2s (x : z4q) : List PV := [.str x.Chan, .sl (List.map z5y x.Moves)]
mutual
def z1z : z07 → List PV
 | .mk z_Kind z_Num z_Name z_Kids => [.int .i64 z_Kind, .int .i64 z_Num, .str z_Name, .sl (zej z_Kids)]
def zej : List z07 → List (List PV)
 | [] => []
 | x :: xs => z1z x :: zej xs
end
theorem zgg : ∀ l, zej l = List.map z1z l
 | [] => rfl
 | x :: xs => by rw [zej, zgg xs]; rfl
theorem z25 (x : z07) : z1z x = [.int .i64 x.Kind, .int .i64 x.Num, .str x.Name, .sl (List.map z1z x.Kids)] := by
 cases x; rw [z1z, zgg]
theorem zna (x : z07) : (z1z x).length = 4 := by rw [z25]; rfl
mutual
def z52 : z24 → List PV
 | .mk z_Tag z_Var z_Body => [.str z_Tag, .str z_Var, .sl (z9h z_Body)]
def zdv : List z24 → List (List PV)
 | [] => []
 | x :: xs => z52 x :: zdv xs
def z0d : z03 → List PV
 | .mk z_Kind z_Name z_Tag z_E z_C z_Body z_Else z_Arms => [.int .i64 z_Kind, .str z_Name, .str z_Tag, .int .i64 z_E.Kind, .int .i64 z_E.Num, .str z_E.Name, .sl (List.map z1z z_E.Kids), .int .i64 z_C.Op, .int .i64 z_C.L.Kind, .int .i64 z_C.L.Num, .str z_C.L.Name, .sl (List.map z1z z_C.L.Kids), .int .i64 z_C.R.Kind, .int .i64 z_C.R.Num, .str z_C.R.Name, .sl (List.map z1z z_C.R.Kids), .sl (z9h z_Body), .sl (z9h z_Else), .sl (zdv z_Arms)]
def z9h : List z03 → List (List PV)
 | [] => []
 | x :: xs => z0d x :: z9h xs
end
theorem zhx : ∀ l, zdv l = List.map z52 l
 | [] => by rw [zdv]; rfl
 | x :: xs => by rw [zdv, zhx xs]; rfl
theorem zdw : ∀ l, z9h l = List.map z0d l
 | [] => by rw [z9h]; rfl
 | x :: xs => by rw [z9h, zdw xs]; rfl
theorem z4x (x : z24) : z52 x = [.str x.Tag, .str x.Var, .sl (List.map z0d x.Body)] := by
 cases x; rw [z52]; simp only [zdw]; first | done | rfl
theorem zjd (x : z24) : (z52 x).length = 3 := by rw [z4x]; rfl
theorem z8p (x : z03) : z0d x = [.int .i64 x.Kind, .str x.Name, .str x.Tag, .int .i64 x.E.Kind, .int .i64 x.E.Num, .str x.E.Name, .sl (List.map z1z x.E.Kids), .int .i64 x.C.Op, .int .i64 x.C.L.Kind, .int .i64 x.C.L.Num, .str x.C.L.Name, .sl (List.map z1z x.C.L.Kids), .int .i64 x.C.R.Kind, .int .i64 x.C.R.Num, .str x.C.R.Name, .sl (List.map z1z x.C.R.Kids), .sl (List.map z0d x.Body), .sl (List.map z0d x.Else), .sl (List.map z52 x.Arms)] := by
 cases x; rw [z0d]; simp only [zhx, zdw]; first | done | rfl
theorem zes (x : z03) : (z0d x).length = 19 := by rw [z8p]; rfl

def z3y (x : z42) : List PV := [.str x.Name, .sl (List.map z1j x.Vars), .sl (List.map z0d x.Body)]
def z15 (x : z0s) : List PV := [.sl (List.map z3d x.Chans), .sl (List.map z2s x.Rules), .sl (List.map z3y x.Procs)]
def z7v (x : z2b) : List PV := [.int .i64 x.Op, .int .i64 x.L.Kind, .int .i64 x.L.Num, .str x.L.Name, .sl (List.map z1z x.L.Kids), .int .i64 x.R.Kind, .int .i64 x.R.Num, .str x.R.Name, .sl (List.map z1z x.R.Kids)]
def zc1 (x : (List z03)) : List PV := [.sl (List.map z0d x)]
structure z22 where
 Chans : (List z33)
 Rules : (List z3b)
 Procs : (List z3f)
def z28 (x : z0e) : List PV := [.int .i64 x.Kind, .str x.Text, .int .i64 x.Num, .int .i64 x.At]
structure z00 where
 f_l : (List z0e)
 f_end : Int
 f_e : Int
 f_at : Int
 f_deep : Int
 f_in : Int
def z02 (x : z00) : List PV := [.sl (List.map z28 x.f_l), .int .i64 x.f_end, .int .i64 x.f_e, .int .i64 x.f_at, .int .i64 x.f_deep, .int .i64 x.f_in]
def z2k (x : z33) : List PV := [.str x.Name, .int .i64 x.Kind, .int .i64 x.Size, .str x.From, .str x.To, .sl (List.map z1j x.Tags)]
def z4p (x : z4h) : List PV := [.int .i64 x.From, .str x.Tag, .int .i64 x.To]
def z36 (x : z3b) : List PV := [.str x.Chan, .sl (List.map z4p x.Moves)]
mutual
def z14 : z05 → List PV
 | .mk z_Kind z_Num z_Name z_Kids => [.int .i64 z_Kind, .int .i64 z_Num, .str z_Name, .sl (zek z_Kids)]
def zek : List z05 → List (List PV)
 | [] => []
 | x :: xs => z14 x :: zek xs
end
theorem zgh : ∀ l, zek l = List.map z14 l
 | [] => rfl
 | x :: xs => by rw [zek, zgh xs]; rfl
theorem z5v (x : z05) : z14 x = [.int .i64 x.Kind, .int .i64 x.Num, .str x.Name, .sl (List.map z14 x.Kids)] := by
 cases x; rw [z14, zgh]
theorem znb (x : z05) : (z14 x).length = 4 := by rw [z5v]; rfl
mutual
def z2h : z13 → List PV
 | .mk z_Tag z_Var z_Body => [.str z_Tag, .str z_Var, .sl (z9i z_Body)]
def zdx : List z13 → List (List PV)
 | [] => []
 | x :: xs => z2h x :: zdx xs
def z16 : z04 → List PV
 | .mk z_Kind z_Name z_Tag z_E z_C z_Body z_Else z_Arms => [.int .i64 z_Kind, .str z_Name, .str z_Tag, .int .i64 z_E.Kind, .int .i64 z_E.Num, .str z_E.Name, .sl (List.map z14 z_E.Kids), .int .i64 z_C.Op, .int .i64 z_C.L.Kind, .int .i64 z_C.L.Num, .str z_C.L.Name, .sl (List.map z14 z_C.L.Kids), .int .i64 z_C.R.Kind, .int .i64 z_C.R.Num, .str z_C.R.Name, .sl (List.map z14 z_C.R.Kids), .sl (z9i z_Body), .sl (z9i z_Else), .sl (zdx z_Arms)]
def z9i : List z04 → List (List PV)
 | [] => []
 | x :: xs => z16 x :: z9i xs
end
theorem zhy : ∀ l, zdx l = List.map z2h l
 | [] => by rw [zdx]; rfl
 | x :: xs => by rw [zdx, zhy xs]; rfl
theorem zdy : ∀ l, z9i l = List.map z16 l
 | [] => by rw [z9i]; rfl
 | x :: xs => by rw [z9i, zdy xs]; rfl
theorem zax (x : z13) : z2h x = [.str x.Tag, .str x.Var, .sl (List.map z16 x.Body)] := by
 cases x; rw [z2h]; simp only [zdy]; first | done | rfl
theorem zfk (x : z13) : (z2h x).length = 3 := by rw [zax]; rfl
theorem z43 (x : z04) : z16 x = [.int .i64 x.Kind, .str x.Name, .str x.Tag, .int .i64 x.E.Kind, .int .i64 x.E.Num, .str x.E.Name, .sl (List.map z14 x.E.Kids), .int .i64 x.C.Op, .int .i64 x.C.L.Kind, .int .i64 x.C.L.Num, .str x.C.L.Name, .sl (List.map z14 x.C.L.Kids), .int .i64 x.C.R.Kind, .int .i64 x.C.R.Num, .str x.C.R.Name, .sl (List.map z14 x.C.R.Kids), .sl (List.map z16 x.Body), .sl (List.map z16 x.Else), .sl (List.map z2h x.Arms)] := by
 cases x; rw [z16]; simp only [zhy, zdy]; first | done | rfl
theorem zhz (x : z04) : (z16 x).length = 19 := by rw [z43]; rfl

def zdn (x : z41) : List PV := [.int .i64 x.Op, .int .i64 x.L.Kind, .int .i64 x.L.Num, .str x.L.Name, .sl (List.map z14 x.L.Kids), .int .i64 x.R.Kind, .int .i64 x.R.Num, .str x.R.Name, .sl (List.map z14 x.R.Kids)]
def z0v (x : z3f) : List PV := [.str x.Name, .sl (List.map z1j x.Vars), .sl (List.map z16 x.Body)]
def zay (x : z22) : List PV := [.sl (List.map z2k x.Chans), .sl (List.map z36 x.Rules), .sl (List.map z0v x.Procs)]
structure z01 where
 L : (List z0n)
 I : Int
 End : Int
 E : Int
 At : Int
def z0b (x : z01) : List PV := [.sl (List.map z0t x.L), .int .i64 x.I, .int .i64 x.End, .int .i64 x.E, .int .i64 x.At]

def z96 (x : z03) : List PV := [.int .i64 x.Kind, .str x.Name, .str x.Tag, .int .i64 x.E.Kind, .int .i64 x.E.Num, .str x.E.Name, .sl (List.map z1z x.E.Kids), .int .i64 x.C.Op, .int .i64 x.C.L.Kind, .int .i64 x.C.L.Num, .str x.C.L.Name, .sl (List.map z1z x.C.L.Kids), .int .i64 x.C.R.Kind, .int .i64 x.C.R.Num, .str x.C.R.Name, .sl (List.map z1z x.C.R.Kids), .sl (List.map z0d x.Body), .sl (List.map z0d x.Else), .sl (List.map z52 x.Arms)]
def z0w (x : z07) : List PV := [.int .i64 x.Kind, .int .i64 x.Num, .str x.Name, .sl (List.map z1z x.Kids)]
def z8j (x : z24) : List PV := [.str x.Tag, .str x.Var, .sl (List.map z0d x.Body)]
def z38 (x : z05) : List PV := [.int .i64 x.Kind, .int .i64 x.Num, .str x.Name, .sl (List.map z14 x.Kids)]
def z2l (x : z04) : List PV := [.int .i64 x.Kind, .str x.Name, .str x.Tag, .int .i64 x.E.Kind, .int .i64 x.E.Num, .str x.E.Name, .sl (List.map z14 x.E.Kids), .int .i64 x.C.Op, .int .i64 x.C.L.Kind, .int .i64 x.C.L.Num, .str x.C.L.Name, .sl (List.map z14 x.C.L.Kids), .int .i64 x.C.R.Kind, .int .i64 x.C.R.Num, .str x.C.R.Name, .sl (List.map z14 x.C.R.Kids), .sl (List.map z16 x.Body), .sl (List.map z16 x.Else), .sl (List.map z2h x.Arms)]
def z6r (x : z13) : List PV := [.str x.Tag, .str x.Var, .sl (List.map z16 x.Body)]
noncomputable def zaz (a0 : Int) : Option Bool :=
 if (decide (a0 ≥ 97)) then (some (decide (a0 ≤ 122)))
 else (some false)

def z6c (r : Bool) : List XV := [xB r]

def zql (r : Bool) : z0o := []

noncomputable def zbu (a0 : Int) : Option Bool :=
 if (decide (a0 ≥ 48)) then (some (decide (a0 ≤ 57)))
 else (some false)

def z8q (r : Bool) : List XV := [xB r]

def zsb (r : Bool) : z0o := []

noncomputable def zm4 : Option (List ByteArray) :=
 some [(ByteArray.mk #[99, 104, 97, 110]), (ByteArray.mk #[98, 108, 111, 99, 107]), (ByteArray.mk #[100, 114, 111, 112]), (ByteArray.mk #[108, 111, 115, 115, 121]), (ByteArray.mk #[102, 114, 111, 109]), (ByteArray.mk #[116, 111]), (ByteArray.mk #[114, 117, 108, 101]), (ByteArray.mk #[112, 114, 111, 99]), (ByteArray.mk #[118, 97, 114]), (ByteArray.mk #[105, 102]), (ByteArray.mk #[101, 108, 115, 101]), (ByteArray.mk #[119, 104, 105, 108, 101]), (ByteArray.mk #[115, 101, 110, 100]), (ByteArray.mk #[114, 101, 99, 118]), (ByteArray.mk #[97, 115, 115, 101, 114, 116]), (ByteArray.mk #[105, 110, 112, 117, 116])]

def zii (r : (List ByteArray)) : List XV := [xL (List.map z1j r)]

def zsc (r : (List ByteArray)) : z0o := []

noncomputable def z7m (a0 : ByteArray) (v1 : (List ByteArray)) (x1 : Int) : Option (Sum Int (Sum Bool Unit)) :=
 if (decide (x1 < (v1.length : Int))) then (idx v1 x1 >>= fun v2 =>
 if (v2.toList == a0.toList) then (some (.inr (.inl true)))
 else (some (.inl (IntKind.i64.wrap (x1 + 1)))))
 else (some (.inr (.inr ())))

noncomputable def zcr (a0 : ByteArray) : Option Bool :=
 zm4 >>= fun v1 =>
 iter (z7m a0 v1) 0 >>= Sum.elim (fun r => some r) (fun j1 =>
 some false)

def zcm (r : Bool) : List XV := [xB r]

def zi0 (r : Bool) : z0o := []

noncomputable def znc (r : Bool) : Tg := .r false Tryz.f64.results.toList 0 (zcm r) (zi0 r)

noncomputable def zc8 (a0 : ByteArray) (a1 : Int) (x1 : Int) : Option (Sum Int (Sum Int Unit)) :=
 if (decide (x1 < 4)) then (((if (decide ((IntKind.i64.wrap (a1 + 2)) ≤ (a0.size : Int))) then (ssub a0 a1 (IntKind.i64.wrap (a1 + 2)) >>= fun v1 =>
 idx [(ByteArray.mk #[61, 61]), (ByteArray.mk #[33, 61]), (ByteArray.mk #[60, 61]), (ByteArray.mk #[62, 61])] x1 >>= fun v2 =>
 some (v1.toList == v2.toList))
 else (some false) : Option Bool) >>= fun j2 =>
 if j2 then (some (.inr (.inl 2)))
 else (some (.inl (IntKind.i64.wrap (x1 + 1))))))
 else (some (.inr (.inr ())))

noncomputable def zc9 (a0 : ByteArray) (a1 : Int) (x3 : Int) : Option (Sum Int (Sum Int Unit)) :=
 if (decide (x3 < ((ByteArray.mk #[123, 125, 40, 41, 59, 44, 46, 61, 60, 62, 43, 45, 42, 47, 37]).size : Int))) then (bidx (ByteArray.mk #[123, 125, 40, 41, 59, 44, 46, 61, 60, 62, 43, 45, 42, 47, 37]) x3 >>= fun v3 =>
 bidx a0 a1 >>= fun v4 =>
 if (v3 == v4) then (some (.inr (.inl 1)))
 else (some (.inl (IntKind.i64.wrap (x3 + 1)))))
 else (some (.inr (.inr ())))

noncomputable def zje (a0 : ByteArray) (a1 : Int) : Option Int :=
 iter (zc8 a0 a1) 0 >>= Sum.elim (fun r => some r) (fun j1 =>
 iter (zc9 a0 a1) 0 >>= Sum.elim (fun r => some r) (fun j3 =>
 some 0))

def zhf (r : Int) : List XV := [xI r]

def zo5 (r : Int) : z0o := []

noncomputable def zo6 (r : Int) : Tg := .r false Tryz.f65.results.toList 0 (zhf r) (zo5 r)

noncomputable def z9u (a0 : ByteArray) (v1 : Int) (x3 : Int) : Option (Sum Int (Sum ((List z0n) × Int × Int) Int)) :=
 ((if (decide (x3 < (a0.size : Int))) then (zaz v1 >>= fun v2 =>
 if v2 then (bidx a0 x3 >>= fun v3 =>
 zaz v3 >>= fun v4 =>
 if v4 then (some true)
 else (bidx a0 x3 >>= fun v5 =>
 zbu v5 >>= fun v6 =>
 some v6))
 else (zbu v1 >>= fun v7 =>
 if v7 then (bidx a0 x3 >>= fun v8 =>
 zaz v8 >>= fun v9 =>
 if v9 then (some true)
 else (bidx a0 x3 >>= fun v10 =>
 zbu v10 >>= fun v11 =>
 some v11))
 else (some false)))
 else (some false) : Option Bool) >>= fun j4 =>
 if j4 then (some (.inl (IntKind.i64.wrap (x3 + 1))))
 else (some (.inr (.inr x3))))

noncomputable def zb0 (v16 : ByteArray) (x1 : (Int × (List z0n))) (x7 : (Int × Int)) : Option (Sum (Int × Int) (Sum ((List z0n) × Int × Int) Int)) :=
 if (decide (x7.1 < (v16.size : Int))) then (bidx v16 x7.1 >>= fun v17 =>
 zbu v17 >>= fun v18 =>
 if (!v18) then (some (.inr (.inl ([], x1.1, 3))))
 else (bidx v16 x7.1 >>= fun v19 =>
 some (.inl ((IntKind.i64.wrap (x7.1 + 1)), (IntKind.i64.wrap ((IntKind.i64.wrap (10 * x7.2)) + (IntKind.i64.wrap (IntKind.u8.wrap (v19 - 48)))))))))
 else (some (.inr (.inr x7.2)))

noncomputable def z97 (a0 : ByteArray) (x1 : (Int × (List z0n))) : Option (Sum (Int × (List z0n)) (Sum ((List z0n) × Int × Int) (List z0n))) :=
 if (decide (x1.1 < (a0.size : Int))) then (bidx a0 x1.1 >>= fun v1 =>
 ((if (v1 == 32) then (some true)
 else (some (v1 == 10)) : Option Bool) >>= fun j2 =>
 if j2 then (some (.inl ((IntKind.i64.wrap (x1.1 + 1)), x1.2)))
 else (iter (z9u a0 v1) x1.1 >>= Sum.elim (fun _ => none) (fun j3 =>
 ((zaz v1 >>= fun v12 =>
 if v12 then (ssub a0 x1.1 j3 >>= fun v13 =>
 zcr v13 >>= fun v14 =>
 if v14 then (if (decide ((v13.size : Int) > 12)) then (some (.inl ([], x1.1, 3)))
 else (some (.inr (j3, 4, v13, 0))))
 else (if (decide ((v13.size : Int) > 12)) then (some (.inl ([], x1.1, 3)))
 else (some (.inr (j3, 1, v13, 0)))))
 else (zbu v1 >>= fun v15 =>
 if v15 then (ssub a0 x1.1 j3 >>= fun v16 =>
 ((if (decide ((v16.size : Int) > 10)) then (some true)
 else (if (decide ((v16.size : Int) > 1)) then (some (v1 == 48))
 else (some false)) : Option Bool) >>= fun j6 =>
 if j6 then (some (.inl ([], x1.1, 3)))
 else (iter (zb0 v16 x1) (0, 0) >>= Sum.elim (fun r => some (.inl r)) (fun j7 =>
 if (decide (j7 > 2147483647)) then (some (.inl ([], x1.1, 3)))
 else (some (.inr (j3, 2, v16, j7)))))))
 else (zje a0 x1.1 >>= fun v20 =>
 if (v20 == 0) then (some (.inl ([], x1.1, 2)))
 else (ssub a0 x1.1 (IntKind.i64.wrap (x1.1 + v20)) >>= fun v21 =>
 some (.inr ((IntKind.i64.wrap (x1.1 + v20)), 3, v21, 0))))) : Option (Sum ((List z0n) × Int × Int) (Int × Int × ByteArray × Int))) >>= Sum.elim (fun r => some (.inr (.inl r))) (fun j5 =>
 app 40 x1.2 [(z0n.mk j5.2.1 j5.2.2.1 j5.2.2.2 x1.1)] >>= fun v22 =>
 some (.inl (j5.1, v22))))))))
 else (some (.inr (.inr x1.2)))

noncomputable def zgi (a0 : ByteArray) : Option ((List z0n) × Int × Int) :=
 iter (z97 a0) (0, []) >>= Sum.elim (fun r => some r) (fun j1 =>
 if (decide ((j1.length : Int) > 2000)) then (some ([], (a0.size : Int), 4))
 else (some (j1, 0, 0)))

def zgj (r : ((List z0n) × Int × Int)) : List XV := [xL (List.map z0t r.1), xI r.2.1, xI r.2.2]

def zqm (r : ((List z0n) × Int × Int)) : z0o := []

noncomputable def zjf (r : ((List z0n) × Int × Int)) : Tg := .r false Tryz.f25.results.toList 0 (zgj r) (zqm r)

noncomputable def z6v (a0 : ByteArray) : Option Bool :=
 zgi a0 >>= fun v1 =>
 if (v1.2.2 == 0) then (if ((v1.1.length : Int) == 1) then (idx v1.1 0 >>= fun v2 =>
 if (v2.Kind == 1) then (idx v1.1 0 >>= fun v3 =>
 some (v3.Text.toList == a0.toList))
 else (some false))
 else (some false))
 else (some false)

def z1v (r : Bool) : List XV := [xB r]

def zw5 (r : Bool) : z0o := []

noncomputable def zb1 (a0 : Int) : Option Bool :=
 if (decide (a0 ≥ 0)) then (some (decide (a0 ≤ 2147483647)))
 else (some false)

def z6s (r : Bool) : List XV := [xB r]

def zqn (r : Bool) : z0o := []

noncomputable def zfl (a0 : Int) : Option Bool :=
 if (decide (a0 ≥ 4)) then (some (decide (a0 ≤ 8)))
 else (some false)

def zdz (r : Bool) : List XV := [xB r]

def zyh (r : Bool) : z0o := []

def z6w (r : Bool) : List XV := [xB r]

def zw6 (r : Bool) : z0o := []

noncomputable def z66 : Nat → z07 → Option Bool
  | 0, _ => none
  | n + 1, a0 => if (a0.Kind == 1) then (((zb1 a0.Num >>= fun v1 =>
 if v1 then (some ((a0.Kids.length : Int) == 0))
 else (some false) : Option Bool) >>= fun j1 =>
 some j1))
 else (if (a0.Kind == 2) then (((z6v a0.Name >>= fun v2 =>
 if v2 then (some ((a0.Kids.length : Int) == 0))
 else (some false) : Option Bool) >>= fun j2 =>
 some j2))
 else (if (a0.Kind == 3) then (((if ((a0.Kids.length : Int) == 1) then (idx a0.Kids 0 >>= fun v3 =>
 (z66 n) v3 >>= fun v4 =>
 some v4)
 else (some false) : Option Bool) >>= fun j3 =>
 some j3))
 else (zfl a0.Kind >>= fun v5 =>
 if v5 then (((if ((a0.Kids.length : Int) == 2) then (idx a0.Kids 0 >>= fun v6 =>
 (z66 n) v6 >>= fun v7 =>
 if v7 then (idx a0.Kids 1 >>= fun v8 =>
 (z66 n) v8 >>= fun v9 =>
 some v9)
 else (some false))
 else (some false) : Option Bool) >>= fun j4 =>
 some j4))
 else (some false))))

noncomputable def zhg (a0 : z07) : Option Bool := unf fun n => z66 n a0

noncomputable def zfm (a0 : z2b) : Option Bool :=
 if (decide (a0.Op ≥ 1)) then (if (decide (a0.Op ≤ 6)) then (zhg a0.L >>= fun v1 =>
 if v1 then (zhg a0.R >>= fun v2 =>
 some v2)
 else (some false))
 else (some false))
 else (some false)

def zb2 (r : Bool) : List XV := [xB r]

def zw7 (r : Bool) : z0o := []

noncomputable def z9j (F_r02_stmts : (List z03) → Option Bool) (v1 : z03) (x4 : (Bool × Int)) : Option (Sum (Bool × Int) (Sum Bool Bool)) :=
 if (decide (x4.2 < (v1.Arms.length : Int))) then (((if x4.1 then (idx v1.Arms x4.2 >>= fun v13 =>
 z6v v13.Tag >>= fun v14 =>
 if v14 then (idx v1.Arms x4.2 >>= fun v15 =>
 z6v v15.Var >>= fun v16 =>
 if v16 then (idx v1.Arms x4.2 >>= fun v17 =>
 F_r02_stmts v17.Body >>= fun v18 =>
 some v18)
 else (some false))
 else (some false))
 else (some false) : Option Bool) >>= fun j5 =>
 some (.inl (j5, (IntKind.i64.wrap (x4.2 + 1))))))
 else (some (.inr (.inr x4.1)))

noncomputable def zb3 (F_r02_stmts : (List z03) → Option Bool) (a0 : (List z03)) (x1 : Int) : Option (Sum Int (Sum Bool Unit)) :=
 if (decide (x1 < (a0.length : Int))) then (((idx a0 x1 >>= fun v1 =>
 if (v1.Kind == 1) then (z6v v1.Name >>= fun v2 =>
 if v2 then (zhg v1.E >>= fun v3 =>
 if (!v3) then (some (.inl false))
 else (some (.inr ())))
 else (some (.inl false)))
 else (if (v1.Kind == 2) then (zfm v1.C >>= fun v4 =>
 if v4 then (F_r02_stmts v1.Body >>= fun v5 =>
 if v5 then (F_r02_stmts v1.Else >>= fun v6 =>
 if (!v6) then (some (.inl false))
 else (some (.inr ())))
 else (some (.inl false)))
 else (some (.inl false)))
 else (if (v1.Kind == 3) then (zfm v1.C >>= fun v7 =>
 if v7 then (F_r02_stmts v1.Body >>= fun v8 =>
 if (!v8) then (some (.inl false))
 else (some (.inr ())))
 else (some (.inl false)))
 else (if (v1.Kind == 4) then (z6v v1.Name >>= fun v9 =>
 if v9 then (z6v v1.Tag >>= fun v10 =>
 if v10 then (zhg v1.E >>= fun v11 =>
 if (!v11) then (some (.inl false))
 else (some (.inr ())))
 else (some (.inl false)))
 else (some (.inl false)))
 else (if (v1.Kind == 5) then (((z6v v1.Name >>= fun v12 =>
 if v12 then (some (decide ((v1.Arms.length : Int) > 0)))
 else (some false) : Option Bool) >>= fun j3 =>
 iter (z9j F_r02_stmts v1) (j3, 0) >>= Sum.elim (fun _ => none) (fun j4 =>
 if (!j4) then (some (.inl false))
 else (some (.inr ())))))
 else (if (v1.Kind == 6) then (zfm v1.C >>= fun v19 =>
 if (!v19) then (some (.inl false))
 else (some (.inr ())))
 else (if (v1.Kind == 7) then (z6v v1.Name >>= fun v20 =>
 if (!v20) then (some (.inl false))
 else (some (.inr ())))
 else (some (.inl false)))))))) : Option (Sum Bool Unit)) >>= Sum.elim (fun r => some (.inr (.inl r))) (fun j2 =>
 some (.inl (IntKind.i64.wrap (x1 + 1))))))
 else (some (.inr (.inr ())))

def z74 (r : Bool) : List XV := [xB r]

def zm5 (r : Bool) : z0o := []

noncomputable def zij (r : Bool) : Tg := .r false Tryz.f77.results.toList 0 (z74 r) (zm5 r)

noncomputable def z7w : Nat → (List z03) → Option Bool
  | 0, _ => none
  | n + 1, a0 => iter (zb3 (z7w n) a0) 0 >>= Sum.elim (fun r => some r) (fun j1 =>
 some true)

noncomputable def zm6 (a0 : (List z03)) : Option Bool := unf fun n => z7w n a0

noncomputable def zb4 (v1 : z3g) (x3 : Int) : Option (Sum Int (Sum Bool Unit)) :=
 if (decide (x3 < (v1.Tags.length : Int))) then (idx v1.Tags x3 >>= fun v6 =>
 z6v v6 >>= fun v7 =>
 if (!v7) then (some (.inr (.inl false)))
 else (some (.inl (IntKind.i64.wrap (x3 + 1)))))
 else (some (.inr (.inr ())))

noncomputable def zb5 (a0 : z0s) (x1 : Int) : Option (Sum Int (Sum Bool Unit)) :=
 if (decide (x1 < (a0.Chans.length : Int))) then (idx a0.Chans x1 >>= fun v1 =>
 ((z6v v1.Name >>= fun v2 =>
 if (!v2) then (some true)
 else (z6v v1.From >>= fun v3 =>
 if (!v3) then (some true)
 else (z6v v1.To >>= fun v4 =>
 if (!v4) then (some true)
 else (if (decide (v1.Kind < 0)) then (some true)
 else (if (decide (v1.Kind > 2)) then (some true)
 else (zb1 v1.Size >>= fun v5 =>
 if (!v5) then (some true)
 else (some ((v1.Tags.length : Int) == 0))))))) : Option Bool) >>= fun j2 =>
 if j2 then (some (.inr (.inl false)))
 else (iter (zb4 v1) 0 >>= Sum.elim (fun r => some (.inr (.inl r))) (fun j3 =>
 some (.inl (IntKind.i64.wrap (x1 + 1)))))))
 else (some (.inr (.inr ())))

noncomputable def zb6 (a0 : z0s) (x4 : Int) (x5 : Int) : Option (Sum Int (Sum Bool Unit)) :=
 idx a0.Rules x4 >>= fun v10 =>
 if (decide (x5 < (v10.Moves.length : Int))) then (idx a0.Rules x4 >>= fun v11 =>
 idx v11.Moves x5 >>= fun v12 =>
 ((zb1 v12.From >>= fun v13 =>
 if (!v13) then (some true)
 else (zb1 v12.To >>= fun v14 =>
 if (!v14) then (some true)
 else (z6v v12.Tag >>= fun v15 =>
 some (!v15))) : Option Bool) >>= fun j6 =>
 if j6 then (some (.inr (.inl false)))
 else (some (.inl (IntKind.i64.wrap (x5 + 1))))))
 else (some (.inr (.inr ())))

noncomputable def zb7 (a0 : z0s) (x4 : Int) : Option (Sum Int (Sum Bool Unit)) :=
 if (decide (x4 < (a0.Rules.length : Int))) then (idx a0.Rules x4 >>= fun v8 =>
 z6v v8.Chan >>= fun v9 =>
 if (!v9) then (some (.inr (.inl false)))
 else (iter (zb6 a0 x4) 0 >>= Sum.elim (fun r => some (.inr (.inl r))) (fun j5 =>
 some (.inl (IntKind.i64.wrap (x4 + 1))))))
 else (some (.inr (.inr ())))

noncomputable def zb8 (v16 : z42) (x9 : Int) : Option (Sum Int (Sum Bool Unit)) :=
 if (decide (x9 < (v16.Vars.length : Int))) then (idx v16.Vars x9 >>= fun v19 =>
 z6v v19 >>= fun v20 =>
 if (!v20) then (some (.inr (.inl false)))
 else (some (.inl (IntKind.i64.wrap (x9 + 1)))))
 else (some (.inr (.inr ())))

noncomputable def zb9 (a0 : z0s) (x7 : Int) : Option (Sum Int (Sum Bool Unit)) :=
 if (decide (x7 < (a0.Procs.length : Int))) then (idx a0.Procs x7 >>= fun v16 =>
 ((z6v v16.Name >>= fun v17 =>
 if (!v17) then (some true)
 else (zm6 v16.Body >>= fun v18 =>
 some (!v18)) : Option Bool) >>= fun j8 =>
 if j8 then (some (.inr (.inl false)))
 else (iter (zb8 v16) 0 >>= Sum.elim (fun r => some (.inr (.inl r))) (fun j9 =>
 some (.inl (IntKind.i64.wrap (x7 + 1)))))))
 else (some (.inr (.inr ())))

noncomputable def zgk (a0 : z0s) : Option Bool :=
 iter (zb5 a0) 0 >>= Sum.elim (fun r => some r) (fun j1 =>
 iter (zb7 a0) 0 >>= Sum.elim (fun r => some r) (fun j4 =>
 iter (zb9 a0) 0 >>= Sum.elim (fun r => some r) (fun j7 =>
 some true)))

def zfn (r : Bool) : List XV := [xB r]

def zm7 (r : Bool) : z0o := []

noncomputable def zca (r : Bool) : Tg := .r false Tryz.f44.results.toList 0 (zfn r) (zm7 r)

noncomputable def zhh (a0 : z07) (a1 : z07) : Option Bool :=
 if (decide (a0.Kind ≥ 6)) then (if (a1.Kind == 4) then (some true)
 else (some (a1.Kind == 5)))
 else (some false)

def zhi (r : Bool) : List XV := [xB r]

def zw8 (r : Bool) : z0o := []

noncomputable def ze0 (a0 : z07) (a1 : z07) : Option Bool :=
 if (decide (a0.Kind ≥ 6)) then (zfl a1.Kind >>= fun v1 =>
 some v1)
 else (if (a1.Kind == 4) then (some true)
 else (some (a1.Kind == 5)))

def ze1 (r : Bool) : List XV := [xB r]

def zsd (r : Bool) : z0o := []

def z5z (r : Int) : List XV := [xI r]

def zw9 (r : Int) : z0o := []

noncomputable def z83 : Nat → z07 → Option Int
  | 0, _ => none
  | n + 1, a0 => ((if (a0.Kind == 3) then (idx a0.Kids 0 >>= fun v1 =>
 zfl v1.Kind >>= fun v2 =>
 some v2)
 else (some false) : Option Bool) >>= fun j1 =>
 if j1 then (idx a0.Kids 0 >>= fun v3 =>
 (z83 n) v3 >>= fun v4 =>
 some (IntKind.i64.wrap (2 + v4)))
 else (if (a0.Kind == 3) then (idx a0.Kids 0 >>= fun v5 =>
 (z83 n) v5 >>= fun v6 =>
 some (IntKind.i64.wrap (1 + v6)))
 else (zfl a0.Kind >>= fun v7 =>
 if v7 then (idx a0.Kids 0 >>= fun v8 =>
 (z83 n) v8 >>= fun v9 =>
 idx a0.Kids 1 >>= fun v10 =>
 (z83 n) v10 >>= fun v11 =>
 zhh a0 v8 >>= fun v12 =>
 if v12 then (ze0 a0 v10 >>= fun v13 =>
 if v13 then (some (max (IntKind.i64.wrap (v9 + 1)) (IntKind.i64.wrap (v11 + 1))))
 else (some (max (IntKind.i64.wrap (v9 + 1)) v11)))
 else (ze0 a0 v10 >>= fun v14 =>
 if v14 then (some (max v9 (IntKind.i64.wrap (v11 + 1))))
 else (some (max v9 v11))))
 else (some 0))))

noncomputable def zcn (a0 : z07) : Option Int := unf fun n => z83 n a0

noncomputable def zde (F_r02_blocks : (List z03) → Option (Int × Int)) (x3 : Unit) : Option (Sum Unit (Sum (Int × Int) Unit)) :=
 if (decide ((0 : Int) < 0)) then (none)
 else (some (.inr (.inr ())))

noncomputable def zdf (F_r02_blocks : (List z03) → Option (Int × Int)) (x4 : Unit) : Option (Sum Unit (Sum (Int × Int) Unit)) :=
 if (decide ((0 : Int) < 0)) then (none)
 else (some (.inr (.inr ())))

noncomputable def zdg (F_r02_blocks : (List z03) → Option (Int × Int)) (v4 : (List (List z03))) (x5 : (Int × Int × Int)) : Option (Sum (Int × Int × Int) (Sum (Int × Int) (Int × Int))) :=
 if (decide (x5.2.2 < (v4.length : Int))) then (idx v4 x5.2.2 >>= fun v7 =>
 F_r02_blocks v7 >>= fun v8 =>
 some (.inl ((max x5.1 (IntKind.i64.wrap (v8.1 + 1))), (max x5.2.1 v8.2), (IntKind.i64.wrap (x5.2.2 + 1)))))
 else (some (.inr (.inr (x5.1, x5.2.1))))

noncomputable def zdh (F_r02_blocks : (List z03) → Option (Int × Int)) (v9 : (List (List z03))) (x6 : (Int × Int × Int)) : Option (Sum (Int × Int × Int) (Sum (Int × Int) (Int × Int))) :=
 if (decide (x6.2.2 < (v9.length : Int))) then (idx v9 x6.2.2 >>= fun v12 =>
 F_r02_blocks v12 >>= fun v13 =>
 some (.inl ((max x6.1 (IntKind.i64.wrap (v13.1 + 1))), (max x6.2.1 v13.2), (IntKind.i64.wrap (x6.2.2 + 1)))))
 else (some (.inr (.inr (x6.1, x6.2.1))))

noncomputable def z8r (F_r02_blocks : (List z03) → Option (Int × Int)) (v1 : z03) (x7 : (Int × (List (List z03)))) : Option (Sum (Int × (List (List z03))) (Sum (Int × Int) (List (List z03)))) :=
 if (decide (x7.1 < (v1.Arms.length : Int))) then (idx v1.Arms x7.1 >>= fun v14 =>
 app 24 x7.2 [v14.Body] >>= fun v15 =>
 some (.inl ((IntKind.i64.wrap (x7.1 + 1)), v15)))
 else (some (.inr (.inr x7.2)))

noncomputable def zdi (F_r02_blocks : (List z03) → Option (Int × Int)) (j7 : (List (List z03))) (x8 : (Int × Int × Int)) : Option (Sum (Int × Int × Int) (Sum (Int × Int) (Int × Int))) :=
 if (decide (x8.2.2 < (j7.length : Int))) then (idx j7 x8.2.2 >>= fun v16 =>
 F_r02_blocks v16 >>= fun v17 =>
 some (.inl ((max x8.1 (IntKind.i64.wrap (v17.1 + 1))), (max x8.2.1 v17.2), (IntKind.i64.wrap (x8.2.2 + 1)))))
 else (some (.inr (.inr (x8.1, x8.2.1))))

noncomputable def zdj (F_r02_blocks : (List z03) → Option (Int × Int)) (x9 : Unit) : Option (Sum Unit (Sum (Int × Int) Unit)) :=
 if (decide ((0 : Int) < 0)) then (none)
 else (some (.inr (.inr ())))

noncomputable def zco (F_r02_blocks : (List z03) → Option (Int × Int)) (x10 : Unit) : Option (Sum Unit (Sum (Int × Int) Unit)) :=
 if (decide ((0 : Int) < 0)) then (none)
 else (some (.inr (.inr ())))

noncomputable def z8s (F_r02_blocks : (List z03) → Option (Int × Int)) (a0 : (List z03)) (x1 : (Int × Int × Int)) : Option (Sum (Int × Int × Int) (Sum (Int × Int) (Int × Int))) :=
 if (decide (x1.2.2 < (a0.length : Int))) then (((idx a0 x1.2.2 >>= fun v1 =>
 if (v1.Kind == 1) then (zcn v1.E >>= fun v2 =>
 iter (zde F_r02_blocks) () >>= Sum.elim (fun _ => none) (fun j3 =>
 some (x1.1, (max x1.2.1 v2))))
 else (if (v1.Kind == 4) then (zcn v1.E >>= fun v3 =>
 iter (zdf F_r02_blocks) () >>= Sum.elim (fun _ => none) (fun j4 =>
 some (x1.1, (max x1.2.1 v3))))
 else (if (v1.Kind == 2) then (app 24 [] [v1.Body, v1.Else] >>= fun v4 =>
 zcn v1.C.L >>= fun v5 =>
 zcn v1.C.R >>= fun v6 =>
 iter (zdg F_r02_blocks v4) ((max x1.1 1), (max (max x1.2.1 v5) v6), 0) >>= Sum.elim (fun _ => none) (fun j5 =>
 some (j5.1, j5.2)))
 else (if (v1.Kind == 3) then (app 24 [] [v1.Body] >>= fun v9 =>
 zcn v1.C.L >>= fun v10 =>
 zcn v1.C.R >>= fun v11 =>
 iter (zdh F_r02_blocks v9) ((max x1.1 1), (max (max x1.2.1 v10) v11), 0) >>= Sum.elim (fun _ => none) (fun j6 =>
 some (j6.1, j6.2)))
 else (if (v1.Kind == 5) then (iter (z8r F_r02_blocks v1) (0, []) >>= Sum.elim (fun _ => none) (fun j7 =>
 iter (zdi F_r02_blocks j7) ((max x1.1 1), x1.2.1, 0) >>= Sum.elim (fun _ => none) (fun j8 =>
 some (j8.1, j8.2))))
 else (if (v1.Kind == 6) then (zcn v1.C.L >>= fun v18 =>
 zcn v1.C.R >>= fun v19 =>
 iter (zdj F_r02_blocks) () >>= Sum.elim (fun _ => none) (fun j9 =>
 some (x1.1, (max (max x1.2.1 v18) v19))))
 else (iter (zco F_r02_blocks) () >>= Sum.elim (fun _ => none) (fun j10 =>
 some (x1.1, x1.2.1)))))))) : Option (Int × Int)) >>= fun j2 =>
 some (.inl (j2.1, j2.2, (IntKind.i64.wrap (x1.2.2 + 1))))))
 else (some (.inr (.inr (x1.1, x1.2.1))))

def z7d (r : (Int × Int)) : List XV := [xI r.1, xI r.2]

def zkz (r : (Int × Int)) : z0o := []

noncomputable def z84 (r : (Int × Int)) : Tg := .r false Tryz.f45.results.toList 0 (z7d r) (zkz r)

noncomputable def z2x : Nat → (List z03) → Option (Int × Int)
  | 0, _ => none
  | n + 1, a0 => iter (z8s (z2x n) a0) (0, 0, 0) >>= Sum.elim (fun _ => none) (fun j1 =>
 some (j1.1, j1.2))

noncomputable def zkd (a0 : (List z03)) : Option (Int × Int) := unf fun n => z2x n a0

noncomputable def z3z (F_r02_exprWords : z07 → Option (List ByteArray)) (F_r02_in : z07 → Bool → Option (List ByteArray)) (x1 : (ByteArray × Int)) : Option (Sum (ByteArray × Int) (Sum (List ByteArray) ByteArray)) :=
 ((if (decide (x1.2 > 0)) then (some true)
 else (some (x1.1.toList == (ByteArray.mk #[]).toList)) : Option Bool) >>= fun j2 =>
 if j2 then (rem x1.2 10 >>= fun v1 =>
 scat (strOfNums [(IntKind.u8.wrap (IntKind.i64.wrap (48 + v1)))]) x1.1 >>= fun v2 =>
 quo .i64 x1.2 10 >>= fun v3 =>
 some (.inl (v2, v3)))
 else (some (.inr (.inr x1.1))))

def z4s (r : (List ByteArray)) : List XV := [xR 0]

def z4t (r : (List ByteArray)) : z0o := [oR true 9 1 (List.map z1j r)]

noncomputable def zm8 (r : (List ByteArray)) : Tg := .r false Tryz.f79.results.toList 0 (z4s r) (z4t r)

def zfo (r : (List ByteArray)) : List XV := [xR 0]

def zfp (r : (List ByteArray)) : z0o := [oR true 9 1 (List.map z1j r)]

mutual
noncomputable def z4a : Nat → z07 → Option (List ByteArray)
  | 0, _ => none
  | n + 1, a0 => if (a0.Kind == 1) then (iter (z3z (z4a n) (zcb n)) ((ByteArray.mk #[]), a0.Num) >>= Sum.elim (fun _ => none) (fun j1 =>
 some [j1]))
 else (if (a0.Kind == 2) then (some [a0.Name])
 else (if (a0.Kind == 3) then (idx a0.Kids 0 >>= fun v4 =>
 zfl v4.Kind >>= fun v5 =>
 (zcb n) v4 v5 >>= fun v6 =>
 app 16 [(ByteArray.mk #[45])] v6 >>= fun v7 =>
 some v7)
 else (idx a0.Kids 0 >>= fun v8 =>
 zhh a0 v8 >>= fun v9 =>
 (zcb n) v8 v9 >>= fun v10 =>
 idx [(ByteArray.mk #[43]), (ByteArray.mk #[45]), (ByteArray.mk #[42]), (ByteArray.mk #[47]), (ByteArray.mk #[37])] (IntKind.i64.wrap (a0.Kind - 4)) >>= fun v11 =>
 app 16 v10 [v11] >>= fun v12 =>
 idx a0.Kids 1 >>= fun v13 =>
 ze0 a0 v13 >>= fun v14 =>
 (zcb n) v13 v14 >>= fun v15 =>
 app 16 v12 v15 >>= fun v16 =>
 some v16)))
noncomputable def zcb : Nat → z07 → Bool → Option (List ByteArray)
  | 0, _, _ => none
  | n + 1, a0, a1 => (z4a n) a0 >>= fun v1 =>
 if a1 then (app 16 [(ByteArray.mk #[40])] v1 >>= fun v2 =>
 app 16 v2 [(ByteArray.mk #[41])] >>= fun v3 =>
 some v3)
 else (some v1)
end

noncomputable def z8t (a0 : z07) : Option (List ByteArray) := unf fun n => z4a n a0

noncomputable def zcc (a0 : Int) : Option ByteArray :=
 z8t (z07.mk 1 a0 (ByteArray.mk #[]) []) >>= fun v1 =>
 idx v1 0 >>= fun v2 =>
 some v2

def zcs (r : ByteArray) : List XV := [xS r]

def zqo (r : ByteArray) : z0o := []

noncomputable def z8u (a0 : z2b) : Option (List ByteArray) :=
 z8t a0.L >>= fun v1 =>
 app 16 [(ByteArray.mk #[40])] v1 >>= fun v2 =>
 idx [(ByteArray.mk #[61, 61]), (ByteArray.mk #[33, 61]), (ByteArray.mk #[60]), (ByteArray.mk #[60, 61]), (ByteArray.mk #[62]), (ByteArray.mk #[62, 61])] (IntKind.i64.wrap (a0.Op - 1)) >>= fun v3 =>
 app 16 v2 [v3] >>= fun v4 =>
 z8t a0.R >>= fun v5 =>
 app 16 v4 v5 >>= fun v6 =>
 app 16 v6 [(ByteArray.mk #[41])] >>= fun v7 =>
 some v7

def z9k (r : (List ByteArray)) : List XV := [xL (List.map z1j r)]

def zm9 (r : (List ByteArray)) : z0o := []

noncomputable def z7x (F_r02_stmtWords : (List z03) → Option (List ByteArray)) (F_r02_block : (List z03) → Option (List ByteArray)) (v1 : z03) (x3 : (Int × (List ByteArray))) : Option (Sum (Int × (List ByteArray)) (Sum (List ByteArray) (List ByteArray))) :=
 if (decide (x3.1 < (v1.Arms.length : Int))) then (idx v1.Arms x3.1 >>= fun v24 =>
 app 16 x3.2 [v24.Tag, (ByteArray.mk #[40]), v24.Var, (ByteArray.mk #[41])] >>= fun v25 =>
 F_r02_block v24.Body >>= fun v26 =>
 app 16 v25 v26 >>= fun v27 =>
 some (.inl ((IntKind.i64.wrap (x3.1 + 1)), v27)))
 else (some (.inr (.inr x3.2)))

noncomputable def z7y (F_r02_stmtWords : (List z03) → Option (List ByteArray)) (F_r02_block : (List z03) → Option (List ByteArray)) (a0 : (List z03)) (x1 : (Int × (List ByteArray))) : Option (Sum (Int × (List ByteArray)) (Sum (List ByteArray) (List ByteArray))) :=
 if (decide (x1.1 < (a0.length : Int))) then (((idx a0 x1.1 >>= fun v1 =>
 if (v1.Kind == 1) then (app 16 x1.2 [v1.Name, (ByteArray.mk #[61])] >>= fun v2 =>
 z8t v1.E >>= fun v3 =>
 app 16 v2 v3 >>= fun v4 =>
 app 16 v4 [(ByteArray.mk #[59])] >>= fun v5 =>
 some v5)
 else (if (v1.Kind == 2) then (app 16 x1.2 [(ByteArray.mk #[105, 102])] >>= fun v6 =>
 z8u v1.C >>= fun v7 =>
 app 16 v6 v7 >>= fun v8 =>
 F_r02_block v1.Body >>= fun v9 =>
 app 16 v8 v9 >>= fun v10 =>
 if (decide ((v1.Else.length : Int) > 0)) then (app 16 v10 [(ByteArray.mk #[101, 108, 115, 101])] >>= fun v11 =>
 F_r02_block v1.Else >>= fun v12 =>
 app 16 v11 v12 >>= fun v13 =>
 some v13)
 else (some v10))
 else (if (v1.Kind == 3) then (app 16 x1.2 [(ByteArray.mk #[119, 104, 105, 108, 101])] >>= fun v14 =>
 z8u v1.C >>= fun v15 =>
 app 16 v14 v15 >>= fun v16 =>
 F_r02_block v1.Body >>= fun v17 =>
 app 16 v16 v17 >>= fun v18 =>
 some v18)
 else (if (v1.Kind == 4) then (app 16 x1.2 [(ByteArray.mk #[115, 101, 110, 100]), v1.Name, (ByteArray.mk #[46]), v1.Tag, (ByteArray.mk #[40])] >>= fun v19 =>
 z8t v1.E >>= fun v20 =>
 app 16 v19 v20 >>= fun v21 =>
 app 16 v21 [(ByteArray.mk #[41]), (ByteArray.mk #[59])] >>= fun v22 =>
 some v22)
 else (if (v1.Kind == 5) then (app 16 x1.2 [(ByteArray.mk #[114, 101, 99, 118]), v1.Name, (ByteArray.mk #[123])] >>= fun v23 =>
 iter (z7x F_r02_stmtWords F_r02_block v1) (0, v23) >>= Sum.elim (fun _ => none) (fun j3 =>
 app 16 j3 [(ByteArray.mk #[125])] >>= fun v28 =>
 some v28))
 else (if (v1.Kind == 6) then (app 16 x1.2 [(ByteArray.mk #[97, 115, 115, 101, 114, 116])] >>= fun v29 =>
 z8u v1.C >>= fun v30 =>
 app 16 v29 v30 >>= fun v31 =>
 app 16 v31 [(ByteArray.mk #[59])] >>= fun v32 =>
 some v32)
 else (if (v1.Kind == 7) then (app 16 x1.2 [(ByteArray.mk #[105, 110, 112, 117, 116]), v1.Name, (ByteArray.mk #[59])] >>= fun v33 =>
 some v33)
 else (some x1.2))))))) : Option (List ByteArray)) >>= fun j2 =>
 some (.inl ((IntKind.i64.wrap (x1.1 + 1)), j2))))
 else (some (.inr (.inr x1.2)))

def z67 (r : (List ByteArray)) : List XV := [xL (List.map z1j r)]

def zgl (r : (List ByteArray)) : z0o := []

noncomputable def zgm (r : (List ByteArray)) : Tg := .r false Tryz.f47.results.toList 0 (z67 r) (zgl r)

def z8v (r : (List ByteArray)) : List XV := [xL (List.map z1j r)]

def zse (r : (List ByteArray)) : z0o := []

mutual
noncomputable def z4b : Nat → (List z03) → Option (List ByteArray)
  | 0, _ => none
  | n + 1, a0 => iter (z7y (z4b n) (z7i n) a0) (0, []) >>= Sum.elim (fun _ => none) (fun j1 =>
 some j1)
noncomputable def z7i : Nat → (List z03) → Option (List ByteArray)
  | 0, _ => none
  | n + 1, a0 => (z4b n) a0 >>= fun v1 =>
 app 16 [(ByteArray.mk #[123])] v1 >>= fun v2 =>
 app 16 v2 [(ByteArray.mk #[125])] >>= fun v3 =>
 some v3
end

noncomputable def zfq (a0 : (List z03)) : Option (List ByteArray) := unf fun n => z4b n a0

noncomputable def zba (a0 : z0s) (x1 : Int) : Option (Sum Int (Sum ((List ByteArray) × Int) Unit)) :=
 if (decide (x1 < (a0.Procs.length : Int))) then (idx a0.Procs x1 >>= fun v2 =>
 zkd v2.Body >>= fun v3 =>
 ((if (decide (v3.1 > 24)) then (some true)
 else (some (decide (v3.2 > 24))) : Option Bool) >>= fun j2 =>
 if j2 then (some (.inr (.inl ([], 6))))
 else (some (.inl (IntKind.i64.wrap (x1 + 1))))))
 else (some (.inr (.inr ())))

noncomputable def zbb (v4 : z3g) (x4 : (Int × (List ByteArray))) : Option (Sum (Int × (List ByteArray)) (Sum ((List ByteArray) × Int) (List ByteArray))) :=
 if (decide (x4.1 < (v4.Tags.length : Int))) then (((if (decide (x4.1 > 0)) then (app 16 x4.2 [(ByteArray.mk #[44])] >>= fun v8 =>
 idx v4.Tags x4.1 >>= fun v9 =>
 app 16 v8 [v9] >>= fun v10 =>
 some v10)
 else (idx v4.Tags x4.1 >>= fun v11 =>
 app 16 x4.2 [v11] >>= fun v12 =>
 some v12) : Option (List ByteArray)) >>= fun j5 =>
 some (.inl ((IntKind.i64.wrap (x4.1 + 1)), j5))))
 else (some (.inr (.inr x4.2)))

noncomputable def zbc (a0 : z0s) (x3 : (Int × (List ByteArray))) : Option (Sum (Int × (List ByteArray)) (Sum ((List ByteArray) × Int) (List ByteArray))) :=
 if (decide (x3.1 < (a0.Chans.length : Int))) then (idx a0.Chans x3.1 >>= fun v4 =>
 idx [(ByteArray.mk #[98, 108, 111, 99, 107]), (ByteArray.mk #[100, 114, 111, 112]), (ByteArray.mk #[108, 111, 115, 115, 121])] v4.Kind >>= fun v5 =>
 zcc v4.Size >>= fun v6 =>
 app 16 x3.2 [(ByteArray.mk #[99, 104, 97, 110]), v4.Name, v5, v6, (ByteArray.mk #[102, 114, 111, 109]), v4.From, (ByteArray.mk #[116, 111]), v4.To, (ByteArray.mk #[123])] >>= fun v7 =>
 iter (zbb v4) (0, v7) >>= Sum.elim (fun _ => none) (fun j4 =>
 app 16 j4 [(ByteArray.mk #[125]), (ByteArray.mk #[59])] >>= fun v13 =>
 some (.inl ((IntKind.i64.wrap (x3.1 + 1)), v13))))
 else (some (.inr (.inr x3.2)))

noncomputable def zbd (a0 : z0s) (x6 : (Int × (List ByteArray))) (x7 : (Int × (List ByteArray))) : Option (Sum (Int × (List ByteArray)) (Sum ((List ByteArray) × Int) (List ByteArray))) :=
 idx a0.Rules x6.1 >>= fun v16 =>
 if (decide (x7.1 < (v16.Moves.length : Int))) then (idx a0.Rules x6.1 >>= fun v17 =>
 idx v17.Moves x7.1 >>= fun v18 =>
 zcc v18.From >>= fun v19 =>
 zcc v18.To >>= fun v20 =>
 app 16 x7.2 [v19, v18.Tag, v20, (ByteArray.mk #[59])] >>= fun v21 =>
 some (.inl ((IntKind.i64.wrap (x7.1 + 1)), v21)))
 else (some (.inr (.inr x7.2)))

noncomputable def zbe (a0 : z0s) (x6 : (Int × (List ByteArray))) : Option (Sum (Int × (List ByteArray)) (Sum ((List ByteArray) × Int) (List ByteArray))) :=
 if (decide (x6.1 < (a0.Rules.length : Int))) then (idx a0.Rules x6.1 >>= fun v14 =>
 app 16 x6.2 [(ByteArray.mk #[114, 117, 108, 101]), v14.Chan, (ByteArray.mk #[123])] >>= fun v15 =>
 iter (zbd a0 x6) (0, v15) >>= Sum.elim (fun _ => none) (fun j7 =>
 app 16 j7 [(ByteArray.mk #[125])] >>= fun v22 =>
 some (.inl ((IntKind.i64.wrap (x6.1 + 1)), v22))))
 else (some (.inr (.inr x6.2)))

noncomputable def zbf (v23 : z42) (x9 : (Int × (List ByteArray))) : Option (Sum (Int × (List ByteArray)) (Sum ((List ByteArray) × Int) (List ByteArray))) :=
 if (decide (x9.1 < (v23.Vars.length : Int))) then (idx v23.Vars x9.1 >>= fun v25 =>
 app 16 x9.2 [(ByteArray.mk #[118, 97, 114]), v25, (ByteArray.mk #[59])] >>= fun v26 =>
 some (.inl ((IntKind.i64.wrap (x9.1 + 1)), v26)))
 else (some (.inr (.inr x9.2)))

noncomputable def zbg (a0 : z0s) (x8 : (Int × (List ByteArray))) : Option (Sum (Int × (List ByteArray)) (Sum ((List ByteArray) × Int) (List ByteArray))) :=
 if (decide (x8.1 < (a0.Procs.length : Int))) then (idx a0.Procs x8.1 >>= fun v23 =>
 app 16 x8.2 [(ByteArray.mk #[112, 114, 111, 99]), v23.Name, (ByteArray.mk #[123])] >>= fun v24 =>
 iter (zbf v23) (0, v24) >>= Sum.elim (fun _ => none) (fun j9 =>
 zfq v23.Body >>= fun v27 =>
 app 16 j9 v27 >>= fun v28 =>
 app 16 v28 [(ByteArray.mk #[125])] >>= fun v29 =>
 some (.inl ((IntKind.i64.wrap (x8.1 + 1)), v29))))
 else (some (.inr (.inr x8.2)))

noncomputable def zgn (a0 : z0s) : Option ((List ByteArray) × Int) :=
 zgk a0 >>= fun v1 =>
 if (!v1) then (some ([], 5))
 else (iter (zba a0) 0 >>= Sum.elim (fun r => some r) (fun j1 =>
 iter (zbc a0) (0, []) >>= Sum.elim (fun _ => none) (fun j3 =>
 iter (zbe a0) (0, j3) >>= Sum.elim (fun _ => none) (fun j6 =>
 iter (zbg a0) (0, j6) >>= Sum.elim (fun _ => none) (fun j8 =>
 if (decide ((j8.length : Int) > 2000)) then (some ([], 4))
 else (some (j8, 0)))))))

def zfr (r : ((List ByteArray) × Int)) : List XV := [xL (List.map z1j r.1), xI r.2]

def zma (r : ((List ByteArray) × Int)) : z0o := []

noncomputable def zal (r : ((List ByteArray) × Int)) : Tg := .r false Tryz.f14.results.toList 0 (zfr r) (zma r)

noncomputable def zdo (a0 : Int) : Option Bool :=
 if (decide (a0 ≥ 97)) then (some (decide (a0 ≤ 122)))
 else (some false)

def zct (r : Bool) : List XV := [xB r]

def zqp (r : Bool) : z0o := []

noncomputable def zf0 (a0 : Int) : Option Bool :=
 if (decide (a0 ≥ 48)) then (some (decide (a0 ≤ 57)))
 else (some false)

def zfs (r : Bool) : List XV := [xB r]

def zsf (r : Bool) : z0o := []

noncomputable def zcd (a0 : ByteArray) (x1 : Int) : Option (Sum Int (Sum Int Int)) :=
 ((if (decide (x1 < (a0.size : Int))) then (bidx a0 x1 >>= fun v1 =>
 zdo v1 >>= fun v2 =>
 if v2 then (some true)
 else (bidx a0 x1 >>= fun v3 =>
 zf0 v3 >>= fun v4 =>
 some v4))
 else (some false) : Option Bool) >>= fun j2 =>
 if j2 then (some (.inl (IntKind.i64.wrap (x1 + 1))))
 else (some (.inr (.inr x1))))

noncomputable def zke (a0 : ByteArray) : Option Int :=
 iter (zcd a0) 0 >>= Sum.elim (fun _ => none) (fun j1 =>
 some j1)

def zgo (r : Int) : List XV := [xI r]

def zqq (r : Int) : z0o := []

noncomputable def zyi (r : Int) : Tg := .r false Tryz.f92.results.toList 0 (zgo r) (zqq r)

noncomputable def zcu (a0 : ByteArray) : Option Bool :=
 if (a0.toList == (ByteArray.mk #[99, 104, 97, 110]).toList) then (some true)
 else (if (a0.toList == (ByteArray.mk #[98, 108, 111, 99, 107]).toList) then (some true)
 else (if (a0.toList == (ByteArray.mk #[100, 114, 111, 112]).toList) then (some true)
 else (if (a0.toList == (ByteArray.mk #[108, 111, 115, 115, 121]).toList) then (some true)
 else (if (a0.toList == (ByteArray.mk #[102, 114, 111, 109]).toList) then (some true)
 else (if (a0.toList == (ByteArray.mk #[116, 111]).toList) then (some true)
 else (if (a0.toList == (ByteArray.mk #[114, 117, 108, 101]).toList) then (some true)
 else (if (a0.toList == (ByteArray.mk #[112, 114, 111, 99]).toList) then (some true)
 else (if (a0.toList == (ByteArray.mk #[118, 97, 114]).toList) then (some true)
 else (if (a0.toList == (ByteArray.mk #[105, 102]).toList) then (some true)
 else (if (a0.toList == (ByteArray.mk #[101, 108, 115, 101]).toList) then (some true)
 else (if (a0.toList == (ByteArray.mk #[119, 104, 105, 108, 101]).toList) then (some true)
 else (if (a0.toList == (ByteArray.mk #[115, 101, 110, 100]).toList) then (some true)
 else (if (a0.toList == (ByteArray.mk #[114, 101, 99, 118]).toList) then (some true)
 else (if (a0.toList == (ByteArray.mk #[97, 115, 115, 101, 114, 116]).toList) then (some true)
 else (if (a0.toList == (ByteArray.mk #[105, 110, 112, 117, 116]).toList) then (some true)
 else (some false))))))))))))))))

def zet (r : Bool) : List XV := [xB r]

def znd (r : Bool) : z0o := []

noncomputable def zf1 (a0 : ByteArray) : Option (z0e × Int) :=
 if (decide ((a0.size : Int) > 12)) then (some ((z0e.mk 0 (ByteArray.mk #[]) 0 0), 3))
 else (zcu a0 >>= fun v1 =>
 if v1 then (some ((z0e.mk 4 a0 0 0), 0))
 else (some ((z0e.mk 1 a0 0 0), 0)))

def zik (r : (z0e × Int)) : List XV := [.agg (bs (z28 r.1)), xI r.2]

def zsg (r : (z0e × Int)) : z0o := []

def zuk (r : (Int × Int)) : List XV := [xI r.1, xI r.2]

def zsh (r : Int) : List XV := [xI r]

noncomputable def zjg (a0 : ByteArray) : Option Int :=
 ((if (decide ((a0.size : Int) > 1)) then (bidx a0 1 >>= fun v1 =>
 if (v1 == 61) then (bidx a0 0 >>= fun v2 =>
 zsi (ByteArray.mk #[61, 33, 60, 62]) v2 >>= fun v3 =>
 some (decide (v3 ≥ 0)))
 else (some false))
 else (some false) : Option Bool) >>= fun j1 =>
 if j1 then (some 2)
 else (bidx a0 0 >>= fun v4 =>
 zsi (ByteArray.mk #[123, 125, 40, 41, 59, 44, 46, 61, 60, 62, 43, 45, 42, 47, 37]) v4 >>= fun v5 =>
 if (decide (v5 ≥ 0)) then (some 1)
 else (some 0)))

def zkf (r : Int) : List XV := [xI r]

def zwa (r : Int) : z0o := []

noncomputable def zft (a0 : ByteArray) : Option (z0e × Int) :=
 bidx a0 0 >>= fun v1 =>
 zdo v1 >>= fun v2 =>
 if v2 then (zke a0 >>= fun v3 =>
 ssub a0 0 v3 >>= fun v4 =>
 zf1 v4 >>= fun v5 =>
 some (v5.1, v5.2))
 else (bidx a0 0 >>= fun v6 =>
 zf0 v6 >>= fun v7 =>
 if v7 then (zke a0 >>= fun v8 =>
 ssub a0 0 v8 >>= fun v9 =>
 zmb v9 >>= fun v10 =>
 some ((z0e.mk 2 v9 v10.1 0), v10.2))
 else (zjg a0 >>= fun v11 =>
 if (v11 == 0) then (some ((z0e.mk 0 (ByteArray.mk #[]) 0 0), 2))
 else (ssub a0 0 v11 >>= fun v12 =>
 some ((z0e.mk 3 v12 0 0), 0))))

def zkg (r : (z0e × Int)) : List XV := [.agg (bs (z28 r.1)), xI r.2]

def zwb (r : (z0e × Int)) : z0o := []

noncomputable def zce (a0 : ByteArray) (x1 : (Int × (List z0e))) : Option (Sum (Int × (List z0e)) (Sum ((List z0e) × Int × Int) (List z0e))) :=
 if (decide (x1.1 < (a0.size : Int))) then (((bidx a0 x1.1 >>= fun v1 =>
 if (v1 == 32) then (some true)
 else (bidx a0 x1.1 >>= fun v2 =>
 some (v2 == 10)) : Option Bool) >>= fun j2 =>
 if j2 then (some (.inl ((IntKind.i64.wrap (x1.1 + 1)), x1.2)))
 else (ssub a0 x1.1 (a0.size : Int) >>= fun v3 =>
 zft v3 >>= fun v4 =>
 if (v4.2 != 0) then (some (.inr (.inl ([], x1.1, v4.2))))
 else (app 40 x1.2 [(z0e.mk v4.1.Kind v4.1.Text v4.1.Num x1.1)] >>= fun v5 =>
 some (.inl ((IntKind.i64.wrap (x1.1 + (v4.1.Text.size : Int))), v5))))))
 else (some (.inr (.inr x1.2)))

noncomputable def zil (a0 : ByteArray) : Option ((List z0e) × Int × Int) :=
 iter (zce a0) (0, []) >>= Sum.elim (fun r => some r) (fun j1 =>
 if (decide ((j1.length : Int) > 2000)) then (some ([], (a0.size : Int), 4))
 else (some (j1, 0, 0)))

def zjh (r : ((List z0e) × Int × Int)) : List XV := [xL (List.map z28 r.1), xI r.2.1, xI r.2.2]

def zqr (r : ((List z0e) × Int × Int)) : z0o := []

noncomputable def zyj (r : ((List z0e) × Int × Int)) : Tg := .r false Tryz.f19.results.toList 0 (zjh r) (zqr r)

noncomputable def z39 (a0 : z00) (a1 : ByteArray) : Option Bool :=
 if (a0.f_e == 0) then (if (decide ((a0.f_l.length : Int) > 0)) then (idx a0.f_l 0 >>= fun v1 =>
 if (decide (v1.Kind ≥ 3)) then (idx a0.f_l 0 >>= fun v2 =>
 some (v2.Text.toList == a1.toList))
 else (some false))
 else (some false))
 else (some false)

def z54 (r : Bool) : List XV := [xB r]

def z55 (a0 : z00) (r : Bool) : z0o := [oB 71 (bs (z02 a0))]

noncomputable def z0g (a0 : z00) (a1 : ByteArray) : Option (z00 × Bool) :=
 z39 a0 a1 >>= fun v1 =>
 if (!v1) then (some (a0, false))
 else (lsub a0.f_l 1 (a0.f_l.length : Int) >>= fun v2 =>
 some ((z00.mk v2 a0.f_end a0.f_e a0.f_at a0.f_deep a0.f_in), true))

def z2m (r : (z00 × Bool)) : List XV := [xB r.2]

def z2n (r : (z00 × Bool)) : z0o := [oB 71 (bs (z02 r.1))]

noncomputable def z68 (a0 : z00) (a1 : Int) : Option Bool :=
 if (a0.f_e == 0) then (if (decide ((a0.f_l.length : Int) > 0)) then (idx a0.f_l 0 >>= fun v1 =>
 some (v1.Kind == a1))
 else (some false))
 else (some false)

def z9v (r : Bool) : List XV := [xB r]

def z9w (a0 : z00) (r : Bool) : z0o := [oB 71 (bs (z02 a0))]

noncomputable def z2c (a0 : z00) (a1 : Int) : Option z00 :=
 if (a0.f_e != 0) then (some a0)
 else (if (decide ((a0.f_l.length : Int) > 0)) then (idx a0.f_l 0 >>= fun v1 =>
 some (z00.mk a0.f_l a0.f_end a1 v1.At a0.f_deep a0.f_in))
 else (some (z00.mk a0.f_l a0.f_end a1 a0.f_end a0.f_deep a0.f_in)))

def z56 (r : z00) : List XV := []

def z57 (r : z00) : z0o := [oB 71 (bs (z02 r))]

noncomputable def z60 (a0 : z00) (a1 : Int) : Option (z00 × z0e) :=
 z68 a0 a1 >>= fun v1 =>
 if (!v1) then (z2c a0 5 >>= fun v2 =>
 some (v2, (z0e.mk 0 (ByteArray.mk #[]) 0 0)))
 else (idx a0.f_l 0 >>= fun v3 =>
 lsub a0.f_l 1 (a0.f_l.length : Int) >>= fun v4 =>
 some ((z00.mk v4 a0.f_end a0.f_e a0.f_at a0.f_deep a0.f_in), v3))

def zam (r : (z00 × z0e)) : List XV := [.agg (bs (z28 r.2))]

def zan (r : (z00 × z0e)) : z0o := [oB 71 (bs (z02 r.1))]

noncomputable def z0f (a0 : z00) : Option (z00 × ByteArray) :=
 z60 a0 1 >>= fun v1 =>
 some (v1.1, v1.2.Text)

def z1w (r : (z00 × ByteArray)) : List XV := [xS r.2]

def z1x (r : (z00 × ByteArray)) : z0o := [oB 71 (bs (z02 r.1))]

noncomputable def z0l (a0 : (List ByteArray)) (x1 : (Int × (List z0e) × Int × Int × Int × Int × Int)) : Option (Sum (Int × (List z0e) × Int × Int × Int × Int × Int) (Sum (z00 × Int) ((List z0e) × Int × Int × Int × Int × Int))) :=
 if (decide (x1.1 < (a0.length : Int))) then (idx a0 x1.1 >>= fun v1 =>
 z0g (z00.mk x1.2.1 x1.2.2.1 x1.2.2.2.1 x1.2.2.2.2.1 x1.2.2.2.2.2.1 x1.2.2.2.2.2.2) v1 >>= fun v2 =>
 if v2.2 then (some (.inr (.inl (v2.1, x1.1))))
 else (some (.inl ((IntKind.i64.wrap (x1.1 + 1)), v2.1.f_l, v2.1.f_end, v2.1.f_e, v2.1.f_at, v2.1.f_deep, v2.1.f_in))))
 else (some (.inr (.inr (x1.2.1, x1.2.2.1, x1.2.2.2.1, x1.2.2.2.2.1, x1.2.2.2.2.2.1, x1.2.2.2.2.2.2))))

noncomputable def z2a (a0 : (List ByteArray)) (a1010 : z00) : Option (z00 × Int) :=
 iter (z0l a0) (0, a1010.f_l, a1010.f_end, a1010.f_e, a1010.f_at, a1010.f_deep, a1010.f_in) >>= Sum.elim (fun r => some r) (fun j1 =>
 some ((z00.mk j1.1 j1.2.1 j1.2.2.1 j1.2.2.2.1 j1.2.2.2.2.1 j1.2.2.2.2.2), (-1)))

def z3o (r : (z00 × Int)) : List XV := [xI r.2]

def z3p (r : (z00 × Int)) : z0o := [oB 71 (bs (z02 r.1))]

noncomputable def z7n (r : (z00 × Int)) : Tg := .r false Tryz.f97.results.toList 1 (z3o r) (z3p r)

noncomputable def z1r (a0 : z00) (a1 : (List ByteArray)) : Option (z00 × Int) :=
 z2a a1 a0 >>= fun v1 =>
 some (v1.1, v1.2)

def z78 (r : (z00 × Int)) : List XV := [xI r.2]

def z79 (r : (z00 × Int)) : z0o := [oB 71 (bs (z02 r.1))]

noncomputable def z26 (a0 : z00) : Option (z00 × Int) :=
 z60 a0 2 >>= fun v1 =>
 some (v1.1, v1.2.Num)

def z6t (r : (z00 × Int)) : List XV := [xI r.2]

def z6u (r : (z00 × Int)) : z0o := [oB 71 (bs (z02 r.1))]

noncomputable def z08 (a0 : z00) (a1 : ByteArray) : Option z00 :=
 z0g a0 a1 >>= fun v1 =>
 if (!v1.2) then (z2c v1.1 5 >>= fun v2 =>
 some v2)
 else (some v1.1)

def z0p (r : z00) : List XV := []

def z0q (r : z00) : z0o := [oB 71 (bs (z02 r))]

noncomputable def z29 (x1 : ((List z0e) × Int × Int × Int × Int × Int × (List ByteArray))) : Option (Sum ((List z0e) × Int × Int × Int × Int × Int × (List ByteArray)) (Sum (z00 × z33) ((List z0e) × Int × Int × Int × Int × Int × (List ByteArray)))) :=
 z0g (z00.mk x1.1 x1.2.1 x1.2.2.1 x1.2.2.2.1 x1.2.2.2.2.1 x1.2.2.2.2.2.1) (ByteArray.mk #[44]) >>= fun v12 =>
 if v12.2 then (z0f v12.1 >>= fun v13 =>
 app 16 x1.2.2.2.2.2.2 [v13.2] >>= fun v14 =>
 some (.inl (v13.1.f_l, v13.1.f_end, v13.1.f_e, v13.1.f_at, v13.1.f_deep, v13.1.f_in, v14)))
 else (some (.inr (.inr (v12.1.f_l, v12.1.f_end, v12.1.f_e, v12.1.f_at, v12.1.f_deep, v12.1.f_in, x1.2.2.2.2.2.2))))

noncomputable def z6a (a0 : z00) : Option (z00 × z33) :=
 z0f a0 >>= fun v1 =>
 z1r v1.1 [(ByteArray.mk #[98, 108, 111, 99, 107]), (ByteArray.mk #[100, 114, 111, 112]), (ByteArray.mk #[108, 111, 115, 115, 121])] >>= fun v2 =>
 if (decide (v2.2 < 0)) then (z2c v2.1 5 >>= fun v3 =>
 some (v3, (z33.mk v1.2 v2.2 0 (ByteArray.mk #[]) (ByteArray.mk #[]) [])))
 else (z26 v2.1 >>= fun v4 =>
 z08 v4.1 (ByteArray.mk #[102, 114, 111, 109]) >>= fun v5 =>
 z0f v5 >>= fun v6 =>
 z08 v6.1 (ByteArray.mk #[116, 111]) >>= fun v7 =>
 z0f v7 >>= fun v8 =>
 z08 v8.1 (ByteArray.mk #[123]) >>= fun v9 =>
 z0f v9 >>= fun v10 =>
 app 16 [] [v10.2] >>= fun v11 =>
 iter (z29) (v10.1.f_l, v10.1.f_end, v10.1.f_e, v10.1.f_at, v10.1.f_deep, v10.1.f_in, v11) >>= Sum.elim (fun _ => none) (fun j1 =>
 z08 (z00.mk j1.1 j1.2.1 j1.2.2.1 j1.2.2.2.1 j1.2.2.2.2.1 j1.2.2.2.2.2.1) (ByteArray.mk #[125]) >>= fun v15 =>
 z08 v15 (ByteArray.mk #[59]) >>= fun v16 =>
 some (v16, (z33.mk v1.2 v2.2 v4.2 v6.2 v8.2 j1.2.2.2.2.2.2))))

def z9b (r : (z00 × z33)) : List XV := [.agg (bs (z2k r.2))]

def z9c (r : (z00 × z33)) : z0o := [oB 71 (bs (z02 r.1))]

noncomputable def zg2 (r : (z00 × z33)) : Tg := .r false Tryz.f21.results.toList 1 (z9b r) (z9c r)

noncomputable def z3j (x1 : ((List z0e) × Int × Int × Int × Int × Int × (List z4h))) : Option (Sum ((List z0e) × Int × Int × Int × Int × Int × (List z4h)) (Sum (z00 × z3b) ((List z0e) × Int × Int × Int × Int × Int × (List z4h)))) :=
 ((if (x1.2.2.1 == 0) then (z39 (z00.mk x1.1 x1.2.1 x1.2.2.1 x1.2.2.2.1 x1.2.2.2.2.1 x1.2.2.2.2.2.1) (ByteArray.mk #[125]) >>= fun v3 =>
 some (!v3))
 else (some false) : Option Bool) >>= fun j2 =>
 if j2 then (z26 (z00.mk x1.1 x1.2.1 x1.2.2.1 x1.2.2.2.1 x1.2.2.2.2.1 x1.2.2.2.2.2.1) >>= fun v4 =>
 z0f v4.1 >>= fun v5 =>
 z26 v5.1 >>= fun v6 =>
 z08 v6.1 (ByteArray.mk #[59]) >>= fun v7 =>
 app 32 x1.2.2.2.2.2.2 [(z4h.mk v4.2 v5.2 v6.2)] >>= fun v8 =>
 some (.inl (v7.f_l, v7.f_end, v7.f_e, v7.f_at, v7.f_deep, v7.f_in, v8)))
 else (some (.inr (.inr (x1.1, x1.2.1, x1.2.2.1, x1.2.2.2.1, x1.2.2.2.2.1, x1.2.2.2.2.2.1, x1.2.2.2.2.2.2)))))

noncomputable def z7j (a0 : z00) : Option (z00 × z3b) :=
 z0f a0 >>= fun v1 =>
 z08 v1.1 (ByteArray.mk #[123]) >>= fun v2 =>
 iter (z3j) (v2.f_l, v2.f_end, v2.f_e, v2.f_at, v2.f_deep, v2.f_in, []) >>= Sum.elim (fun _ => none) (fun j1 =>
 z08 (z00.mk j1.1 j1.2.1 j1.2.2.1 j1.2.2.2.1 j1.2.2.2.2.1 j1.2.2.2.2.2.1) (ByteArray.mk #[125]) >>= fun v9 =>
 some (v9, (z3b.mk v1.2 j1.2.2.2.2.2.2)))

def zao (r : (z00 × z3b)) : List XV := [.agg (bs (z36 r.2))]

def zap (r : (z00 × z3b)) : z0o := [oB 71 (bs (z02 r.1))]

noncomputable def zim (r : (z00 × z3b)) : Tg := .r false Tryz.f22.results.toList 1 (zao r) (zap r)

noncomputable def z6x (a0 : z00) : Option (z00 × Bool) :=
 if (a0.f_deep == 24) then (z2c a0 6 >>= fun v1 =>
 some (v1, false))
 else (some ((z00.mk a0.f_l a0.f_end a0.f_e a0.f_at (IntKind.i64.wrap (a0.f_deep + 1)) a0.f_in), true))

def za6 (r : (z00 × Bool)) : List XV := [xB r.2]

def za7 (r : (z00 × Bool)) : z0o := [oB 71 (bs (z02 r.1))]

def z2o (r : (z00 × z05)) : List XV := [.agg (bs (z38 r.2))]

def z2p (r : (z00 × z05)) : z0o := [oB 71 (bs (z02 r.1))]

noncomputable def z2t (F_parse_reader_expr : z00 → Option (z00 × z05)) (F_parse_reader_chain_parse_reader_term : z00 → (List ByteArray) → Int → Option (z00 × z05)) (F_parse_reader_term : z00 → Option (z00 × z05)) (F_parse_reader_chain_parse_reader_factor : z00 → (List ByteArray) → Int → Option (z00 × z05)) (F_parse_reader_factor : z00 → Option (z00 × z05)) (F_parse_reader_negated : z00 → Option (z00 × z05)) (F_parse_reader_parens : z00 → Option (z00 × z05)) (a2 : (List ByteArray)) (a3 : Int) (x1 : ((List z0e) × Int × Int × Int × Int × Int × Int × Int × ByteArray × (List z05))) : Option (Sum ((List z0e) × Int × Int × Int × Int × Int × Int × Int × ByteArray × (List z05)) (Sum (z00 × z05) ((List z0e) × Int × Int × Int × Int × Int × Int × Int × ByteArray × (List z05)))) :=
 if (x1.2.2.1 == 0) then (z1r (z00.mk x1.1 x1.2.1 x1.2.2.1 x1.2.2.2.1 x1.2.2.2.2.1 x1.2.2.2.2.2.1) a2 >>= fun v2 =>
 if (decide (v2.2 < 0)) then (some (.inr (.inr (v2.1.f_l, v2.1.f_end, v2.1.f_e, v2.1.f_at, v2.1.f_deep, v2.1.f_in, x1.2.2.2.2.2.2.1, x1.2.2.2.2.2.2.2.1, x1.2.2.2.2.2.2.2.2.1, x1.2.2.2.2.2.2.2.2.2))))
 else (F_parse_reader_term v2.1 >>= fun v3 =>
 some (.inl (v3.1.f_l, v3.1.f_end, v3.1.f_e, v3.1.f_at, v3.1.f_deep, v3.1.f_in, (IntKind.i64.wrap (a3 + v2.2)), 0, (ByteArray.mk #[]), [(z05.mk x1.2.2.2.2.2.2.1 x1.2.2.2.2.2.2.2.1 x1.2.2.2.2.2.2.2.2.1 x1.2.2.2.2.2.2.2.2.2), v3.2]))))
 else (some (.inr (.inr (x1.1, x1.2.1, x1.2.2.1, x1.2.2.2.1, x1.2.2.2.2.1, x1.2.2.2.2.2.1, x1.2.2.2.2.2.2.1, x1.2.2.2.2.2.2.2.1, x1.2.2.2.2.2.2.2.2.1, x1.2.2.2.2.2.2.2.2.2))))

def z17 (r : (z00 × z05)) : List XV := [.agg (bs (z38 r.2))]

def z18 (r : (z00 × z05)) : z0o := [oB 71 (bs (z02 r.1))]

noncomputable def z9x (r : (z00 × z05)) : Tg := .r false Tryz.f160.results.toList 1 (z17 r) (z18 r)

def z3q (r : (z00 × z05)) : List XV := [.agg (bs (z38 r.2))]

def z3r (r : (z00 × z05)) : z0o := [oB 71 (bs (z02 r.1))]

noncomputable def z2d (F_parse_reader_expr : z00 → Option (z00 × z05)) (F_parse_reader_chain_parse_reader_term : z00 → (List ByteArray) → Int → Option (z00 × z05)) (F_parse_reader_term : z00 → Option (z00 × z05)) (F_parse_reader_chain_parse_reader_factor : z00 → (List ByteArray) → Int → Option (z00 × z05)) (F_parse_reader_factor : z00 → Option (z00 × z05)) (F_parse_reader_negated : z00 → Option (z00 × z05)) (F_parse_reader_parens : z00 → Option (z00 × z05)) (a2 : (List ByteArray)) (a3 : Int) (x1 : ((List z0e) × Int × Int × Int × Int × Int × Int × Int × ByteArray × (List z05))) : Option (Sum ((List z0e) × Int × Int × Int × Int × Int × Int × Int × ByteArray × (List z05)) (Sum (z00 × z05) ((List z0e) × Int × Int × Int × Int × Int × Int × Int × ByteArray × (List z05)))) :=
 if (x1.2.2.1 == 0) then (z1r (z00.mk x1.1 x1.2.1 x1.2.2.1 x1.2.2.2.1 x1.2.2.2.2.1 x1.2.2.2.2.2.1) a2 >>= fun v2 =>
 if (decide (v2.2 < 0)) then (some (.inr (.inr (v2.1.f_l, v2.1.f_end, v2.1.f_e, v2.1.f_at, v2.1.f_deep, v2.1.f_in, x1.2.2.2.2.2.2.1, x1.2.2.2.2.2.2.2.1, x1.2.2.2.2.2.2.2.2.1, x1.2.2.2.2.2.2.2.2.2))))
 else (F_parse_reader_factor v2.1 >>= fun v3 =>
 some (.inl (v3.1.f_l, v3.1.f_end, v3.1.f_e, v3.1.f_at, v3.1.f_deep, v3.1.f_in, (IntKind.i64.wrap (a3 + v2.2)), 0, (ByteArray.mk #[]), [(z05.mk x1.2.2.2.2.2.2.1 x1.2.2.2.2.2.2.2.1 x1.2.2.2.2.2.2.2.2.1 x1.2.2.2.2.2.2.2.2.2), v3.2]))))
 else (some (.inr (.inr (x1.1, x1.2.1, x1.2.2.1, x1.2.2.2.1, x1.2.2.2.2.1, x1.2.2.2.2.2.1, x1.2.2.2.2.2.2.1, x1.2.2.2.2.2.2.2.1, x1.2.2.2.2.2.2.2.2.1, x1.2.2.2.2.2.2.2.2.2))))

def z0y (r : (z00 × z05)) : List XV := [.agg (bs (z38 r.2))]

def z0z (r : (z00 × z05)) : z0o := [oB 71 (bs (z02 r.1))]

noncomputable def z9f (r : (z00 × z05)) : Tg := .r false Tryz.f160.results.toList 1 (z0y r) (z0z r)

def z34 (r : (z00 × z05)) : List XV := [.agg (bs (z38 r.2))]

def z35 (r : (z00 × z05)) : z0o := [oB 71 (bs (z02 r.1))]

def z3h (r : (z00 × z05)) : List XV := [.agg (bs (z38 r.2))]

def z3i (r : (z00 × z05)) : z0o := [oB 71 (bs (z02 r.1))]

def z3m (r : (z00 × z05)) : List XV := [.agg (bs (z38 r.2))]

def z3n (r : (z00 × z05)) : z0o := [oB 71 (bs (z02 r.1))]

mutual
noncomputable def z1h : Nat → z00 → Option (z00 × z05)
  | 0, _ => none
  | n + 1, a0 => (z0c n) a0 [(ByteArray.mk #[43]), (ByteArray.mk #[45])] 4 >>= fun v1 =>
 some (v1.1, v1.2)
noncomputable def z0c : Nat → z00 → (List ByteArray) → Int → Option (z00 × z05)
  | 0, _, _, _ => none
  | n + 1, a0, a2, a3 => (z1e n) a0 >>= fun v1 =>
 iter (z2t (z1h n) (z0c n) (z1e n) (z0a n) (z0j n) (z1f n) (z1i n) a2 a3) (v1.1.f_l, v1.1.f_end, v1.1.f_e, v1.1.f_at, v1.1.f_deep, v1.1.f_in, v1.2.Kind, v1.2.Num, v1.2.Name, v1.2.Kids) >>= Sum.elim (fun _ => none) (fun j1 =>
 some ((z00.mk j1.1 j1.2.1 j1.2.2.1 j1.2.2.2.1 j1.2.2.2.2.1 j1.2.2.2.2.2.1), (z05.mk j1.2.2.2.2.2.2.1 j1.2.2.2.2.2.2.2.1 j1.2.2.2.2.2.2.2.2.1 j1.2.2.2.2.2.2.2.2.2)))
noncomputable def z1e : Nat → z00 → Option (z00 × z05)
  | 0, _ => none
  | n + 1, a0 => (z0a n) a0 [(ByteArray.mk #[42]), (ByteArray.mk #[47]), (ByteArray.mk #[37])] 6 >>= fun v1 =>
 some (v1.1, v1.2)
noncomputable def z0a : Nat → z00 → (List ByteArray) → Int → Option (z00 × z05)
  | 0, _, _, _ => none
  | n + 1, a0, a2, a3 => (z0j n) a0 >>= fun v1 =>
 iter (z2d (z1h n) (z0c n) (z1e n) (z0a n) (z0j n) (z1f n) (z1i n) a2 a3) (v1.1.f_l, v1.1.f_end, v1.1.f_e, v1.1.f_at, v1.1.f_deep, v1.1.f_in, v1.2.Kind, v1.2.Num, v1.2.Name, v1.2.Kids) >>= Sum.elim (fun _ => none) (fun j1 =>
 some ((z00.mk j1.1 j1.2.1 j1.2.2.1 j1.2.2.2.1 j1.2.2.2.2.1 j1.2.2.2.2.2.1), (z05.mk j1.2.2.2.2.2.2.1 j1.2.2.2.2.2.2.2.1 j1.2.2.2.2.2.2.2.2.1 j1.2.2.2.2.2.2.2.2.2)))
noncomputable def z0j : Nat → z00 → Option (z00 × z05)
  | 0, _ => none
  | n + 1, a0 => z39 a0 (ByteArray.mk #[45]) >>= fun v1 =>
 if v1 then ((z1f n) a0 >>= fun v2 =>
 some (v2.1, v2.2))
 else (z39 a0 (ByteArray.mk #[40]) >>= fun v3 =>
 if v3 then ((z1i n) a0 >>= fun v4 =>
 some (v4.1, v4.2))
 else (z68 a0 2 >>= fun v5 =>
 if v5 then (z26 a0 >>= fun v6 =>
 some (v6.1, (z05.mk 1 v6.2 (ByteArray.mk #[]) [])))
 else (z0f a0 >>= fun v7 =>
 some (v7.1, (z05.mk 2 0 v7.2 [])))))
noncomputable def z1f : Nat → z00 → Option (z00 × z05)
  | 0, _ => none
  | n + 1, a0 => z6x a0 >>= fun v1 =>
 if (!v1.2) then (some (v1.1, (z05.mk 0 0 (ByteArray.mk #[]) [])))
 else (z08 v1.1 (ByteArray.mk #[45]) >>= fun v2 =>
 (z0j n) v2 >>= fun v3 =>
 some ((z00.mk v3.1.f_l v3.1.f_end v3.1.f_e v3.1.f_at (IntKind.i64.wrap (v3.1.f_deep - 1)) v3.1.f_in), (z05.mk 3 0 (ByteArray.mk #[]) [v3.2])))
noncomputable def z1i : Nat → z00 → Option (z00 × z05)
  | 0, _ => none
  | n + 1, a0 => z6x a0 >>= fun v1 =>
 if (!v1.2) then (some (v1.1, (z05.mk 0 0 (ByteArray.mk #[]) [])))
 else (z08 v1.1 (ByteArray.mk #[40]) >>= fun v2 =>
 (z1h n) v2 >>= fun v3 =>
 z08 v3.1 (ByteArray.mk #[41]) >>= fun v4 =>
 some ((z00.mk v4.f_l v4.f_end v4.f_e v4.f_at (IntKind.i64.wrap (v4.f_deep - 1)) v4.f_in), v3.2))
end

noncomputable def z5d (a0 : z00) : Option (z00 × z05) := unf fun n => z1h n a0

noncomputable def z7k (a0 : z00) : Option (z00 × z04) :=
 z0f a0 >>= fun v1 =>
 z08 v1.1 (ByteArray.mk #[46]) >>= fun v2 =>
 z0f v2 >>= fun v3 =>
 z08 v3.1 (ByteArray.mk #[40]) >>= fun v4 =>
 z5d v4 >>= fun v5 =>
 z08 v5.1 (ByteArray.mk #[41]) >>= fun v6 =>
 z08 v6 (ByteArray.mk #[59]) >>= fun v7 =>
 some (v7, (z04.mk 4 v1.2 v3.2 v5.2 (z41.mk 0 (z05.mk 0 0 (ByteArray.mk #[]) []) (z05.mk 0 0 (ByteArray.mk #[]) [])) [] [] []))

def ze2 (r : (z00 × z04)) : List XV := [.agg (bs (z2l r.2))]

def ze3 (r : (z00 × z04)) : z0o := [oB 71 (bs (z02 r.1))]

noncomputable def z5e (a0 : z00) : Option (z00 × z41) :=
 z08 a0 (ByteArray.mk #[40]) >>= fun v1 =>
 z5d v1 >>= fun v2 =>
 z1r v2.1 [(ByteArray.mk #[61, 61]), (ByteArray.mk #[33, 61]), (ByteArray.mk #[60]), (ByteArray.mk #[60, 61]), (ByteArray.mk #[62]), (ByteArray.mk #[62, 61])] >>= fun v3 =>
 if (decide (v3.2 < 0)) then (z2c v3.1 5 >>= fun v4 =>
 some (v4, (z41.mk 0 v2.2 (z05.mk 0 0 (ByteArray.mk #[]) []))))
 else (z5d v3.1 >>= fun v5 =>
 z08 v5.1 (ByteArray.mk #[41]) >>= fun v6 =>
 some (v6, (z41.mk (IntKind.i64.wrap (1 + v3.2)) v2.2 v5.2)))

def z8w (r : (z00 × z41)) : List XV := [.agg (bs (zdn r.2))]

def z8x (r : (z00 × z41)) : z0o := [oB 71 (bs (z02 r.1))]

noncomputable def z6j (a0 : z00) : Option (z00 × z04) :=
 z5e a0 >>= fun v1 =>
 z08 v1.1 (ByteArray.mk #[59]) >>= fun v2 =>
 some (v2, (z04.mk 6 (ByteArray.mk #[]) (ByteArray.mk #[]) (z05.mk 0 0 (ByteArray.mk #[]) []) v1.2 [] [] []))

def zcv (r : (z00 × z04)) : List XV := [.agg (bs (z2l r.2))]

def zcw (r : (z00 × z04)) : z0o := [oB 71 (bs (z02 r.1))]

noncomputable def z6y (a0 : z00) : Option (z00 × z04) :=
 z0f a0 >>= fun v1 =>
 z08 v1.1 (ByteArray.mk #[59]) >>= fun v2 =>
 some (v2, (z04.mk 7 v1.2 (ByteArray.mk #[]) (z05.mk 0 0 (ByteArray.mk #[]) []) (z41.mk 0 (z05.mk 0 0 (ByteArray.mk #[]) []) (z05.mk 0 0 (ByteArray.mk #[]) [])) [] [] []))

def zd5 (r : (z00 × z04)) : List XV := [.agg (bs (z2l r.2))]

def zd6 (r : (z00 × z04)) : z0o := [oB 71 (bs (z02 r.1))]

noncomputable def z6k (a0 : z00) : Option (z00 × z04) :=
 z0f a0 >>= fun v1 =>
 z08 v1.1 (ByteArray.mk #[61]) >>= fun v2 =>
 z5d v2 >>= fun v3 =>
 z08 v3.1 (ByteArray.mk #[59]) >>= fun v4 =>
 some (v4, (z04.mk 1 v1.2 (ByteArray.mk #[]) v3.2 (z41.mk 0 (z05.mk 0 0 (ByteArray.mk #[]) []) (z05.mk 0 0 (ByteArray.mk #[]) [])) [] [] []))

def zcx (r : (z00 × z04)) : List XV := [.agg (bs (z2l r.2))]

def zcy (r : (z00 × z04)) : z0o := [oB 71 (bs (z02 r.1))]

noncomputable def z86 (F_parse_reader_stmts : z00 → Option (z00 × (List z04))) (F_parse_reader_stmt : z00 → Option (z00 × z04 × Bool)) (F_parse_reader_conditional : z00 → Option (z00 × z04)) (F_parse_reader_loop : z00 → Option (z00 × z04)) (F_parse_reader_recv : z00 → Option (z00 × z04)) (F_parse_reader_block : z00 → Option (z00 × (List z04))) (F_parse_reader_arm : z00 → Option (z00 × z13)) (x1 : ((List z0e) × Int × Int × Int × Int × Int × (List z04))) : Option (Sum ((List z0e) × Int × Int × Int × Int × Int × (List z04)) (Sum (z00 × (List z04)) Unit)) :=
 F_parse_reader_stmt (z00.mk x1.1 x1.2.1 x1.2.2.1 x1.2.2.2.1 x1.2.2.2.2.1 x1.2.2.2.2.2.1) >>= fun v1 =>
 if (!v1.2.2) then (some (.inr (.inl (v1.1, x1.2.2.2.2.2.2))))
 else (app 288 x1.2.2.2.2.2.2 [v1.2.1] >>= fun v2 =>
 some (.inl (v1.1.f_l, v1.1.f_end, v1.1.f_e, v1.1.f_at, v1.1.f_deep, v1.1.f_in, v2)))

def z2z (r : (z00 × (List z04))) : List XV := [xL (List.map z16 r.2)]

def z30 (r : (z00 × (List z04))) : z0o := [oB 71 (bs (z02 r.1))]

noncomputable def zho (r : (z00 × (List z04))) : Tg := .r false Tryz.f61.results.toList 1 (z2z r) (z30 r)

def z4c (r : (z00 × z04 × Bool)) : List XV := [.agg (bs (z2l r.2.1)), xB r.2.2]

def z4d (r : (z00 × z04 × Bool)) : z0o := [oB 71 (bs (z02 r.1))]

def z2q (r : (z00 × z04)) : List XV := [.agg (bs (z2l r.2))]

def z2r (r : (z00 × z04)) : z0o := [oB 71 (bs (z02 r.1))]

def z4e (r : (z00 × z04)) : List XV := [.agg (bs (z2l r.2))]

def z4f (r : (z00 × z04)) : z0o := [oB 71 (bs (z02 r.1))]

noncomputable def z6b (F_parse_reader_stmts : z00 → Option (z00 × (List z04))) (F_parse_reader_stmt : z00 → Option (z00 × z04 × Bool)) (F_parse_reader_conditional : z00 → Option (z00 × z04)) (F_parse_reader_loop : z00 → Option (z00 × z04)) (F_parse_reader_recv : z00 → Option (z00 × z04)) (F_parse_reader_block : z00 → Option (z00 × (List z04))) (F_parse_reader_arm : z00 → Option (z00 × z13)) (x1 : ((List z0e) × Int × Int × Int × Int × Int × (List z13))) : Option (Sum ((List z0e) × Int × Int × Int × Int × Int × (List z13)) (Sum (z00 × z04) ((List z0e) × Int × Int × Int × Int × Int × (List z13)))) :=
 ((if (x1.2.2.1 == 0) then (z39 (z00.mk x1.1 x1.2.1 x1.2.2.1 x1.2.2.2.1 x1.2.2.2.2.1 x1.2.2.2.2.2.1) (ByteArray.mk #[125]) >>= fun v5 =>
 some (!v5))
 else (some false) : Option Bool) >>= fun j2 =>
 if j2 then (F_parse_reader_arm (z00.mk x1.1 x1.2.1 x1.2.2.1 x1.2.2.2.1 x1.2.2.2.2.1 x1.2.2.2.2.2.1) >>= fun v6 =>
 app 56 x1.2.2.2.2.2.2 [v6.2] >>= fun v7 =>
 some (.inl (v6.1.f_l, v6.1.f_end, v6.1.f_e, v6.1.f_at, v6.1.f_deep, v6.1.f_in, v7)))
 else (some (.inr (.inr (x1.1, x1.2.1, x1.2.2.1, x1.2.2.2.1, x1.2.2.2.2.1, x1.2.2.2.2.2.1, x1.2.2.2.2.2.2)))))

def z3s (r : (z00 × z04)) : List XV := [.agg (bs (z2l r.2))]

def z3t (r : (z00 × z04)) : z0o := [oB 71 (bs (z02 r.1))]

noncomputable def zin (r : (z00 × z04)) : Tg := .r false Tryz.f119.results.toList 1 (z3s r) (z3t r)

def z31 (r : (z00 × (List z04))) : List XV := [xL (List.map z16 r.2)]

def z32 (r : (z00 × (List z04))) : z0o := [oB 71 (bs (z02 r.1))]

def z44 (r : (z00 × z13)) : List XV := [.agg (bs (z6r r.2))]

def z45 (r : (z00 × z13)) : z0o := [oB 71 (bs (z02 r.1))]

mutual
noncomputable def z1b : Nat → z00 → Option (z00 × (List z04))
  | 0, _ => none
  | n + 1, a0 => iter (z86 (z1b n) (z0r n) (z10 n) (z1y n) (z1s n) (z0k n) (z1g n)) (a0.f_l, a0.f_end, a0.f_e, a0.f_at, a0.f_deep, a0.f_in, []) >>= Sum.elim (fun r => some r) (fun j1 =>
 none)
noncomputable def z0r : Nat → z00 → Option (z00 × z04 × Bool)
  | 0, _ => none
  | n + 1, a0 => z0g a0 (ByteArray.mk #[105, 102]) >>= fun v1 =>
 if v1.2 then ((z10 n) v1.1 >>= fun v2 =>
 some (v2.1, v2.2, true))
 else (z0g v1.1 (ByteArray.mk #[119, 104, 105, 108, 101]) >>= fun v3 =>
 if v3.2 then ((z1y n) v3.1 >>= fun v4 =>
 some (v4.1, v4.2, true))
 else (z0g v3.1 (ByteArray.mk #[115, 101, 110, 100]) >>= fun v5 =>
 if v5.2 then (z7k v5.1 >>= fun v6 =>
 some (v6.1, v6.2, true))
 else (z0g v5.1 (ByteArray.mk #[114, 101, 99, 118]) >>= fun v7 =>
 if v7.2 then ((z1s n) v7.1 >>= fun v8 =>
 some (v8.1, v8.2, true))
 else (z0g v7.1 (ByteArray.mk #[97, 115, 115, 101, 114, 116]) >>= fun v9 =>
 if v9.2 then (z6j v9.1 >>= fun v10 =>
 some (v10.1, v10.2, true))
 else (z0g v9.1 (ByteArray.mk #[105, 110, 112, 117, 116]) >>= fun v11 =>
 if v11.2 then (z6y v11.1 >>= fun v12 =>
 some (v12.1, v12.2, true))
 else (z68 v11.1 1 >>= fun v13 =>
 if v13 then (z6k v11.1 >>= fun v14 =>
 some (v14.1, v14.2, true))
 else (some (v11.1, (z04.mk 0 (ByteArray.mk #[]) (ByteArray.mk #[]) (z05.mk 0 0 (ByteArray.mk #[]) []) (z41.mk 0 (z05.mk 0 0 (ByteArray.mk #[]) []) (z05.mk 0 0 (ByteArray.mk #[]) [])) [] [] []), false))))))))
noncomputable def z10 : Nat → z00 → Option (z00 × z04)
  | 0, _ => none
  | n + 1, a0 => z5e a0 >>= fun v1 =>
 (z0k n) v1.1 >>= fun v2 =>
 z0g v2.1 (ByteArray.mk #[101, 108, 115, 101]) >>= fun v3 =>
 if v3.2 then ((z0k n) v3.1 >>= fun v4 =>
 some (v4.1, (z04.mk 2 (ByteArray.mk #[]) (ByteArray.mk #[]) (z05.mk 0 0 (ByteArray.mk #[]) []) v1.2 v2.2 v4.2 [])))
 else (some (v3.1, (z04.mk 2 (ByteArray.mk #[]) (ByteArray.mk #[]) (z05.mk 0 0 (ByteArray.mk #[]) []) v1.2 v2.2 [] [])))
noncomputable def z1y : Nat → z00 → Option (z00 × z04)
  | 0, _ => none
  | n + 1, a0 => z5e a0 >>= fun v1 =>
 (z0k n) v1.1 >>= fun v2 =>
 some (v2.1, (z04.mk 3 (ByteArray.mk #[]) (ByteArray.mk #[]) (z05.mk 0 0 (ByteArray.mk #[]) []) v1.2 v2.2 [] []))
noncomputable def z1s : Nat → z00 → Option (z00 × z04)
  | 0, _ => none
  | n + 1, a0 => z0f a0 >>= fun v1 =>
 z08 v1.1 (ByteArray.mk #[123]) >>= fun v2 =>
 (z1g n) v2 >>= fun v3 =>
 app 56 [] [v3.2] >>= fun v4 =>
 iter (z6b (z1b n) (z0r n) (z10 n) (z1y n) (z1s n) (z0k n) (z1g n)) (v3.1.f_l, v3.1.f_end, v3.1.f_e, v3.1.f_at, v3.1.f_deep, v3.1.f_in, v4) >>= Sum.elim (fun _ => none) (fun j1 =>
 z08 (z00.mk j1.1 j1.2.1 j1.2.2.1 j1.2.2.2.1 j1.2.2.2.2.1 j1.2.2.2.2.2.1) (ByteArray.mk #[125]) >>= fun v8 =>
 some (v8, (z04.mk 5 v1.2 (ByteArray.mk #[]) (z05.mk 0 0 (ByteArray.mk #[]) []) (z41.mk 0 (z05.mk 0 0 (ByteArray.mk #[]) []) (z05.mk 0 0 (ByteArray.mk #[]) [])) [] [] j1.2.2.2.2.2.2)))
noncomputable def z0k : Nat → z00 → Option (z00 × (List z04))
  | 0, _ => none
  | n + 1, a0 => ((z39 a0 (ByteArray.mk #[123]) >>= fun v1 =>
 if v1 then (some (a0.f_in == 24))
 else (some false) : Option Bool) >>= fun j1 =>
 if j1 then (z2c a0 6 >>= fun v2 =>
 some (v2, []))
 else (z08 a0 (ByteArray.mk #[123]) >>= fun v3 =>
 (z1b n) (z00.mk v3.f_l v3.f_end v3.f_e v3.f_at v3.f_deep (IntKind.i64.wrap (v3.f_in + 1))) >>= fun v4 =>
 z08 (z00.mk v4.1.f_l v4.1.f_end v4.1.f_e v4.1.f_at v4.1.f_deep (IntKind.i64.wrap (v4.1.f_in - 1))) (ByteArray.mk #[125]) >>= fun v5 =>
 some (v5, v4.2)))
noncomputable def z1g : Nat → z00 → Option (z00 × z13)
  | 0, _ => none
  | n + 1, a0 => z0f a0 >>= fun v1 =>
 z08 v1.1 (ByteArray.mk #[40]) >>= fun v2 =>
 z0f v2 >>= fun v3 =>
 z08 v3.1 (ByteArray.mk #[41]) >>= fun v4 =>
 (z0k n) v4 >>= fun v5 =>
 some (v5.1, (z13.mk v1.2 v3.2 v5.2))
end

noncomputable def z6z (a0 : z00) : Option (z00 × (List z04)) := unf fun n => z1b n a0

noncomputable def z3k (x1 : ((List z0e) × Int × Int × Int × Int × Int × (List ByteArray))) : Option (Sum ((List z0e) × Int × Int × Int × Int × Int × (List ByteArray)) (Sum (z00 × z3f) ((List z0e) × Int × Int × Int × Int × Int × (List ByteArray)))) :=
 z0g (z00.mk x1.1 x1.2.1 x1.2.2.1 x1.2.2.2.1 x1.2.2.2.2.1 x1.2.2.2.2.2.1) (ByteArray.mk #[118, 97, 114]) >>= fun v3 =>
 if v3.2 then (z0f v3.1 >>= fun v4 =>
 app 16 x1.2.2.2.2.2.2 [v4.2] >>= fun v5 =>
 z08 v4.1 (ByteArray.mk #[59]) >>= fun v6 =>
 some (.inl (v6.f_l, v6.f_end, v6.f_e, v6.f_at, v6.f_deep, v6.f_in, v5)))
 else (some (.inr (.inr (v3.1.f_l, v3.1.f_end, v3.1.f_e, v3.1.f_at, v3.1.f_deep, v3.1.f_in, x1.2.2.2.2.2.2))))

noncomputable def z7l (a0 : z00) : Option (z00 × z3f) :=
 z0f a0 >>= fun v1 =>
 z08 v1.1 (ByteArray.mk #[123]) >>= fun v2 =>
 iter (z3k) (v2.f_l, v2.f_end, v2.f_e, v2.f_at, v2.f_deep, v2.f_in, []) >>= Sum.elim (fun _ => none) (fun j1 =>
 z6z (z00.mk j1.1 j1.2.1 j1.2.2.1 j1.2.2.2.1 j1.2.2.2.2.1 j1.2.2.2.2.2.1) >>= fun v7 =>
 z08 v7.1 (ByteArray.mk #[125]) >>= fun v8 =>
 some (v8, (z3f.mk v1.2 j1.2.2.2.2.2.2 v7.2)))

def zaq (r : (z00 × z3f)) : List XV := [.agg (bs (z0v r.2))]

def zar (r : (z00 × z3f)) : z0o := [oB 71 (bs (z02 r.1))]

noncomputable def zio (r : (z00 × z3f)) : Tg := .r false Tryz.f23.results.toList 1 (zaq r) (zar r)

noncomputable def z6p (x1 : ((List z0e) × Int × Int × Int × Int × Int × (List z33))) : Option (Sum ((List z0e) × Int × Int × Int × Int × Int × (List z33)) (Sum (z22 × Int × Int) ((List z0e) × Int × Int × Int × Int × Int × (List z33)))) :=
 z0g (z00.mk x1.1 x1.2.1 x1.2.2.1 x1.2.2.2.1 x1.2.2.2.2.1 x1.2.2.2.2.2.1) (ByteArray.mk #[99, 104, 97, 110]) >>= fun v2 =>
 if v2.2 then (z6a v2.1 >>= fun v3 =>
 app 88 x1.2.2.2.2.2.2 [v3.2] >>= fun v4 =>
 some (.inl (v3.1.f_l, v3.1.f_end, v3.1.f_e, v3.1.f_at, v3.1.f_deep, v3.1.f_in, v4)))
 else (some (.inr (.inr (v2.1.f_l, v2.1.f_end, v2.1.f_e, v2.1.f_at, v2.1.f_deep, v2.1.f_in, x1.2.2.2.2.2.2))))

noncomputable def z6q (x2 : ((List z0e) × Int × Int × Int × Int × Int × (List z3b))) : Option (Sum ((List z0e) × Int × Int × Int × Int × Int × (List z3b)) (Sum (z22 × Int × Int) ((List z0e) × Int × Int × Int × Int × Int × (List z3b)))) :=
 z0g (z00.mk x2.1 x2.2.1 x2.2.2.1 x2.2.2.2.1 x2.2.2.2.2.1 x2.2.2.2.2.2.1) (ByteArray.mk #[114, 117, 108, 101]) >>= fun v5 =>
 if v5.2 then (z7j v5.1 >>= fun v6 =>
 app 40 x2.2.2.2.2.2.2 [v6.2] >>= fun v7 =>
 some (.inl (v6.1.f_l, v6.1.f_end, v6.1.f_e, v6.1.f_at, v6.1.f_deep, v6.1.f_in, v7)))
 else (some (.inr (.inr (v5.1.f_l, v5.1.f_end, v5.1.f_e, v5.1.f_at, v5.1.f_deep, v5.1.f_in, x2.2.2.2.2.2.2))))

noncomputable def z63 (x3 : ((List z0e) × Int × Int × Int × Int × Int × (List z3f))) : Option (Sum ((List z0e) × Int × Int × Int × Int × Int × (List z3f)) (Sum (z22 × Int × Int) ((List z0e) × Int × Int × Int × Int × Int × (List z3f)))) :=
 z0g (z00.mk x3.1 x3.2.1 x3.2.2.1 x3.2.2.2.1 x3.2.2.2.2.1 x3.2.2.2.2.2.1) (ByteArray.mk #[112, 114, 111, 99]) >>= fun v8 =>
 if v8.2 then (z7l v8.1 >>= fun v9 =>
 app 64 x3.2.2.2.2.2.2 [v9.2] >>= fun v10 =>
 some (.inl (v9.1.f_l, v9.1.f_end, v9.1.f_e, v9.1.f_at, v9.1.f_deep, v9.1.f_in, v10)))
 else (some (.inr (.inr (v8.1.f_l, v8.1.f_end, v8.1.f_e, v8.1.f_at, v8.1.f_deep, v8.1.f_in, x3.2.2.2.2.2.2))))

noncomputable def z8y (a0 : ByteArray) : Option (z22 × Int × Int) :=
 zil a0 >>= fun v1 =>
 if (v1.2.2 != 0) then (some ((z22.mk [] [] []), v1.2.1, v1.2.2))
 else (iter (z6p) (v1.1, (a0.size : Int), 0, 0, 0, 0, []) >>= Sum.elim (fun _ => none) (fun j1 =>
 iter (z6q) (j1.1, j1.2.1, j1.2.2.1, j1.2.2.2.1, j1.2.2.2.2.1, j1.2.2.2.2.2.1, []) >>= Sum.elim (fun _ => none) (fun j2 =>
 iter (z63) (j2.1, j2.2.1, j2.2.2.1, j2.2.2.2.1, j2.2.2.2.2.1, j2.2.2.2.2.2.1, []) >>= Sum.elim (fun _ => none) (fun j3 =>
 if (decide ((j3.1.length : Int) > 0)) then (z2c (z00.mk j3.1 j3.2.1 j3.2.2.1 j3.2.2.2.1 j3.2.2.2.2.1 j3.2.2.2.2.2.1) 5 >>= fun v11 =>
 if (v11.f_e != 0) then (some ((z22.mk [] [] []), v11.f_at, v11.f_e))
 else (some ((z22.mk j1.2.2.2.2.2.2 j2.2.2.2.2.2.2 j3.2.2.2.2.2.2), 0, 0)))
 else (if (j3.2.2.1 != 0) then (some ((z22.mk [] [] []), j3.2.2.2.1, j3.2.2.1))
 else (some ((z22.mk j1.2.2.2.2.2.2 j2.2.2.2.2.2.2 j3.2.2.2.2.2.2), 0, 0)))))))

def z8z (r : (z22 × Int × Int)) : List XV := [.agg (bs (zay r.1)), xI r.2.1, xI r.2.2]

def zji (r : (z22 × Int × Int)) : z0o := []

noncomputable def zfu (r : (z22 × Int × Int)) : Tg := .r false Tryz.f9.results.toList 0 (z8z r) (zji r)

noncomputable def zdp : Option Bool :=
 z8y (ByteArray.mk #[112, 114, 111, 99, 32, 112, 32, 123, 32, 120, 32, 61, 32, 49, 32, 43, 32, 50, 32, 42, 32, 51, 32, 59, 32, 125]) >>= fun v1 =>
 z8y (ByteArray.mk #[112, 114, 111, 99, 32, 112]) >>= fun v2 =>
 ((if (v1.2.2 == 0) then (if ((v1.1.Procs.length : Int) == 1) then (idx v1.1.Procs 0 >>= fun v3 =>
 if ((v3.Body.length : Int) == 1) then (idx v1.1.Procs 0 >>= fun v4 =>
 idx v4.Body 0 >>= fun v5 =>
 if (v5.E.Kind == 4) then (idx v1.1.Procs 0 >>= fun v6 =>
 idx v6.Body 0 >>= fun v7 =>
 if ((v7.E.Kids.length : Int) == 2) then (idx v1.1.Procs 0 >>= fun v8 =>
 idx v8.Body 0 >>= fun v9 =>
 idx v9.E.Kids 1 >>= fun v10 =>
 if (v10.Kind == 6) then (if (v2.2.2 == 5) then (some (v2.2.1 == 6))
 else (some false))
 else (some false))
 else (some false))
 else (some false))
 else (some false))
 else (some false))
 else (some false) : Option Bool) >>= fun j1 =>
 some j1)

def zbh (r : Bool) : List XV := [xB r]

def zqs (r : Bool) : z0o := []

noncomputable def z0i (a0 : z01) (a1 : ByteArray) : Option Bool :=
 if (a0.E == 0) then (if (decide (a0.I < (a0.L.length : Int))) then (idx a0.L a0.I >>= fun v1 =>
 if (v1.Text.toList == a1.toList) then (some (decide (v1.Kind ≥ 3)))
 else (some false))
 else (some false))
 else (some false)

def z1n (r : Bool) : List XV := [xB r]

def z1o (a0 : z01) (r : Bool) : z0o := [oB 89 (bs (z0b a0))]

noncomputable def z3l (a0 : z01) (a1 : Int) : Option z01 :=
 if (a0.E != 0) then (some a0)
 else (if (decide (a0.I < (a0.L.length : Int))) then (idx a0.L a0.I >>= fun v1 =>
 some (z01.mk a0.L a0.I a0.End a1 v1.At))
 else (some (z01.mk a0.L a0.I a0.End a1 a0.End)))

def z5f (r : z01) : List XV := []

def z5g (r : z01) : z0o := [oB 89 (bs (z0b r))]

noncomputable def z0h (a0 : z01) : Option (z01 × ByteArray) :=
 ((if (a0.E != 0) then (some true)
 else (if (decide (a0.I ≥ (a0.L.length : Int))) then (some true)
 else (idx a0.L a0.I >>= fun v1 =>
 some (v1.Kind != 1))) : Option Bool) >>= fun j1 =>
 if j1 then (z3l a0 5 >>= fun v2 =>
 some (v2, (ByteArray.mk #[])))
 else (idx a0.L (IntKind.i64.wrap ((IntKind.i64.wrap (a0.I + 1)) - 1)) >>= fun v3 =>
 some ((z01.mk a0.L (IntKind.i64.wrap (a0.I + 1)) a0.End a0.E a0.At), v3.Text)))

def z2e (r : (z01 × ByteArray)) : List XV := [xS r.2]

def z2f (r : (z01 × ByteArray)) : z0o := [oB 89 (bs (z0b r.1))]

noncomputable def z2u (a0 : z01) : Option (z01 × Int) :=
 ((if (a0.E != 0) then (some true)
 else (if (decide (a0.I ≥ (a0.L.length : Int))) then (some true)
 else (idx a0.L a0.I >>= fun v1 =>
 some (v1.Kind != 2))) : Option Bool) >>= fun j1 =>
 if j1 then (z3l a0 5 >>= fun v2 =>
 some (v2, 0))
 else (idx a0.L (IntKind.i64.wrap ((IntKind.i64.wrap (a0.I + 1)) - 1)) >>= fun v3 =>
 some ((z01.mk a0.L (IntKind.i64.wrap (a0.I + 1)) a0.End a0.E a0.At), v3.Num)))

def z7o (r : (z01 × Int)) : List XV := [xI r.2]

def z7p (r : (z01 × Int)) : z0o := [oB 89 (bs (z0b r.1))]

noncomputable def z09 (a0 : z01) (a1 : ByteArray) : Option z01 :=
 z0i a0 a1 >>= fun v1 =>
 if (!v1) then (z3l a0 5 >>= fun v2 =>
 some v2)
 else (some (z01.mk a0.L (IntKind.i64.wrap (a0.I + 1)) a0.End a0.E a0.At))

def z19 (r : z01) : List XV := []

def z1a (r : z01) : z0o := [oB 89 (bs (z0b r))]

noncomputable def z47 (v1 : (z01 × ByteArray)) (x1 : (Int × Int)) : Option (Sum (Int × Int) (Sum (z01 × z3g) Int)) :=
 if (decide (x1.1 < 3)) then (((idx [(ByteArray.mk #[98, 108, 111, 99, 107]), (ByteArray.mk #[100, 114, 111, 112]), (ByteArray.mk #[108, 111, 115, 115, 121])] x1.1 >>= fun v2 =>
 z0i v1.1 v2 >>= fun v3 =>
 if v3 then (some x1.1)
 else (some x1.2) : Option Int) >>= fun j2 =>
 some (.inl ((IntKind.i64.wrap (x1.1 + 1)), j2))))
 else (some (.inr (.inr x1.2)))

noncomputable def z2v (x3 : ((List z0n) × Int × Int × Int × Int × (List ByteArray))) : Option (Sum ((List z0n) × Int × Int × Int × Int × (List ByteArray)) (Sum (z01 × z3g) ((List z0n) × Int × Int × Int × Int × (List ByteArray)))) :=
 z0i (z01.mk x3.1 x3.2.1 x3.2.2.1 x3.2.2.2.1 x3.2.2.2.2.1) (ByteArray.mk #[44]) >>= fun v13 =>
 if v13 then (z0h (z01.mk x3.1 (IntKind.i64.wrap (x3.2.1 + 1)) x3.2.2.1 x3.2.2.2.1 x3.2.2.2.2.1) >>= fun v14 =>
 app 16 x3.2.2.2.2.2 [v14.2] >>= fun v15 =>
 some (.inl (v14.1.L, v14.1.I, v14.1.End, v14.1.E, v14.1.At, v15)))
 else (some (.inr (.inr (x3.1, x3.2.1, x3.2.2.1, x3.2.2.2.1, x3.2.2.2.2.1, x3.2.2.2.2.2))))

noncomputable def z71 (a0 : z01) : Option (z01 × z3g) :=
 z0h a0 >>= fun v1 =>
 iter (z47 v1) (0, (-1)) >>= Sum.elim (fun _ => none) (fun j1 =>
 if (decide (j1 < 0)) then (z3l v1.1 5 >>= fun v4 =>
 some (v4, (z3g.mk v1.2 j1 0 (ByteArray.mk #[]) (ByteArray.mk #[]) [])))
 else (z2u (z01.mk v1.1.L (IntKind.i64.wrap (v1.1.I + 1)) v1.1.End v1.1.E v1.1.At) >>= fun v5 =>
 z09 v5.1 (ByteArray.mk #[102, 114, 111, 109]) >>= fun v6 =>
 z0h v6 >>= fun v7 =>
 z09 v7.1 (ByteArray.mk #[116, 111]) >>= fun v8 =>
 z0h v8 >>= fun v9 =>
 z09 v9.1 (ByteArray.mk #[123]) >>= fun v10 =>
 z0h v10 >>= fun v11 =>
 app 16 [] [v11.2] >>= fun v12 =>
 iter (z2v) (v11.1.L, v11.1.I, v11.1.End, v11.1.E, v11.1.At, v12) >>= Sum.elim (fun _ => none) (fun j3 =>
 z09 (z01.mk j3.1 j3.2.1 j3.2.2.1 j3.2.2.2.1 j3.2.2.2.2.1) (ByteArray.mk #[125]) >>= fun v16 =>
 z09 v16 (ByteArray.mk #[59]) >>= fun v17 =>
 some (v17, (z3g.mk v1.2 j1 v5.2 v7.2 v9.2 j3.2.2.2.2.2)))))

def za8 (r : (z01 × z3g)) : List XV := [.agg (bs (z3d r.2))]

def za9 (r : (z01 × z3g)) : z0o := [oB 89 (bs (z0b r.1))]

noncomputable def zd7 (r : (z01 × z3g)) : Tg := .r false Tryz.f27.results.toList 1 (za8 r) (za9 r)

def z4j (r : (z01 × z07)) : List XV := [.agg (bs (z0w r.2))]

def z4k (r : (z01 × z07)) : z0o := [oB 89 (bs (z0b r.1))]

noncomputable def z6l (F_r03_Reader_expr : z01 → Int → Option (z01 × z07)) (F_r03_Reader_chain : z01 → Int → (List ByteArray) → Int → Option (z01 × z07)) (F_r03_Reader_factor : z01 → Int → Option (z01 × z07)) (a2 : (List ByteArray)) (x1 : ((List z0n) × Int × Int × Int × Int × Int × Int × ByteArray × (List z07))) (x2 : (Int × Int)) : Option (Sum (Int × Int) (Sum (z01 × z07) Int)) :=
 if (decide (x2.2 < (a2.length : Int))) then (((idx a2 x2.2 >>= fun v2 =>
 z0i (z01.mk x1.1 x1.2.1 x1.2.2.1 x1.2.2.2.1 x1.2.2.2.2.1) v2 >>= fun v3 =>
 if v3 then (some x2.2)
 else (some x2.1) : Option Int) >>= fun j3 =>
 some (.inl (j3, (IntKind.i64.wrap (x2.2 + 1))))))
 else (some (.inr (.inr x2.1)))

noncomputable def z6m (F_r03_Reader_expr : z01 → Int → Option (z01 × z07)) (F_r03_Reader_chain : z01 → Int → (List ByteArray) → Int → Option (z01 × z07)) (F_r03_Reader_factor : z01 → Int → Option (z01 × z07)) (a1 : Int) (a2 : (List ByteArray)) (a3 : Int) (x1 : ((List z0n) × Int × Int × Int × Int × Int × Int × ByteArray × (List z07))) : Option (Sum ((List z0n) × Int × Int × Int × Int × Int × Int × ByteArray × (List z07)) (Sum (z01 × z07) ((List z0n) × Int × Int × Int × Int × Int × Int × ByteArray × (List z07)))) :=
 if (x1.2.2.2.1 == 0) then (iter (z6l F_r03_Reader_expr F_r03_Reader_chain F_r03_Reader_factor a2 x1) ((-1), 0) >>= Sum.elim (fun _ => none) (fun j2 =>
 if (decide (j2 < 0)) then (some (.inr (.inr (x1.1, x1.2.1, x1.2.2.1, x1.2.2.2.1, x1.2.2.2.2.1, x1.2.2.2.2.2.1, x1.2.2.2.2.2.2.1, x1.2.2.2.2.2.2.2.1, x1.2.2.2.2.2.2.2.2))))
 else (F_r03_Reader_factor (z01.mk x1.1 (IntKind.i64.wrap (x1.2.1 + 1)) x1.2.2.1 x1.2.2.2.1 x1.2.2.2.2.1) a1 >>= fun v4 =>
 some (.inl (v4.1.L, v4.1.I, v4.1.End, v4.1.E, v4.1.At, (IntKind.i64.wrap (a3 + j2)), 0, (ByteArray.mk #[]), [(z07.mk x1.2.2.2.2.2.1 x1.2.2.2.2.2.2.1 x1.2.2.2.2.2.2.2.1 x1.2.2.2.2.2.2.2.2), v4.2])))))
 else (some (.inr (.inr (x1.1, x1.2.1, x1.2.2.1, x1.2.2.2.1, x1.2.2.2.2.1, x1.2.2.2.2.2.1, x1.2.2.2.2.2.2.1, x1.2.2.2.2.2.2.2.1, x1.2.2.2.2.2.2.2.2))))

noncomputable def z6n (F_r03_Reader_expr : z01 → Int → Option (z01 × z07)) (F_r03_Reader_chain : z01 → Int → (List ByteArray) → Int → Option (z01 × z07)) (F_r03_Reader_factor : z01 → Int → Option (z01 × z07)) (a2 : (List ByteArray)) (x4 : ((List z0n) × Int × Int × Int × Int × Int × Int × ByteArray × (List z07))) (x5 : (Int × Int)) : Option (Sum (Int × Int) (Sum (z01 × z07) Int)) :=
 if (decide (x5.2 < (a2.length : Int))) then (((idx a2 x5.2 >>= fun v6 =>
 z0i (z01.mk x4.1 x4.2.1 x4.2.2.1 x4.2.2.2.1 x4.2.2.2.2.1) v6 >>= fun v7 =>
 if v7 then (some x5.2)
 else (some x5.1) : Option Int) >>= fun j6 =>
 some (.inl (j6, (IntKind.i64.wrap (x5.2 + 1))))))
 else (some (.inr (.inr x5.1)))

noncomputable def z6o (F_r03_Reader_expr : z01 → Int → Option (z01 × z07)) (F_r03_Reader_chain : z01 → Int → (List ByteArray) → Int → Option (z01 × z07)) (F_r03_Reader_factor : z01 → Int → Option (z01 × z07)) (a1 : Int) (a2 : (List ByteArray)) (a3 : Int) (x4 : ((List z0n) × Int × Int × Int × Int × Int × Int × ByteArray × (List z07))) : Option (Sum ((List z0n) × Int × Int × Int × Int × Int × Int × ByteArray × (List z07)) (Sum (z01 × z07) ((List z0n) × Int × Int × Int × Int × Int × Int × ByteArray × (List z07)))) :=
 if (x4.2.2.2.1 == 0) then (iter (z6n F_r03_Reader_expr F_r03_Reader_chain F_r03_Reader_factor a2 x4) ((-1), 0) >>= Sum.elim (fun _ => none) (fun j5 =>
 if (decide (j5 < 0)) then (some (.inr (.inr (x4.1, x4.2.1, x4.2.2.1, x4.2.2.2.1, x4.2.2.2.2.1, x4.2.2.2.2.2.1, x4.2.2.2.2.2.2.1, x4.2.2.2.2.2.2.2.1, x4.2.2.2.2.2.2.2.2))))
 else (F_r03_Reader_chain (z01.mk x4.1 (IntKind.i64.wrap (x4.2.1 + 1)) x4.2.2.1 x4.2.2.2.1 x4.2.2.2.2.1) a1 [(ByteArray.mk #[42]), (ByteArray.mk #[47]), (ByteArray.mk #[37])] 6 >>= fun v8 =>
 some (.inl (v8.1.L, v8.1.I, v8.1.End, v8.1.E, v8.1.At, (IntKind.i64.wrap (a3 + j5)), 0, (ByteArray.mk #[]), [(z07.mk x4.2.2.2.2.2.1 x4.2.2.2.2.2.2.1 x4.2.2.2.2.2.2.2.1 x4.2.2.2.2.2.2.2.2), v8.2])))))
 else (some (.inr (.inr (x4.1, x4.2.1, x4.2.2.1, x4.2.2.2.1, x4.2.2.2.2.1, x4.2.2.2.2.2.1, x4.2.2.2.2.2.2.1, x4.2.2.2.2.2.2.2.1, x4.2.2.2.2.2.2.2.2))))

def z4y (r : (z01 × z07)) : List XV := [.agg (bs (z0w r.2))]

def z4z (r : (z01 × z07)) : z0o := [oB 89 (bs (z0b r.1))]

noncomputable def z9e (r : (z01 × z07)) : Tg := .r false Tryz.f100.results.toList 1 (z4y r) (z4z r)

def z58 (r : (z01 × z07)) : List XV := [.agg (bs (z0w r.2))]

def z59 (r : (z01 × z07)) : z0o := [oB 89 (bs (z0b r.1))]

mutual
noncomputable def z1t : Nat → z01 → Int → Option (z01 × z07)
  | 0, _, _ => none
  | n + 1, a0, a1 => (z12 n) a0 a1 [(ByteArray.mk #[43]), (ByteArray.mk #[45])] 4 >>= fun v1 =>
 some (v1.1, v1.2)
noncomputable def z12 : Nat → z01 → Int → (List ByteArray) → Int → Option (z01 × z07)
  | 0, _, _, _, _ => none
  | n + 1, a0, a1, a2, a3 => if (a3 == 6) then ((z0m n) a0 a1 >>= fun v1 =>
 iter (z6m (z1t n) (z12 n) (z0m n) a1 a2 a3) (v1.1.L, v1.1.I, v1.1.End, v1.1.E, v1.1.At, v1.2.Kind, v1.2.Num, v1.2.Name, v1.2.Kids) >>= Sum.elim (fun _ => none) (fun j1 =>
 some ((z01.mk j1.1 j1.2.1 j1.2.2.1 j1.2.2.2.1 j1.2.2.2.2.1), (z07.mk j1.2.2.2.2.2.1 j1.2.2.2.2.2.2.1 j1.2.2.2.2.2.2.2.1 j1.2.2.2.2.2.2.2.2))))
 else ((z12 n) a0 a1 [(ByteArray.mk #[42]), (ByteArray.mk #[47]), (ByteArray.mk #[37])] 6 >>= fun v5 =>
 iter (z6o (z1t n) (z12 n) (z0m n) a1 a2 a3) (v5.1.L, v5.1.I, v5.1.End, v5.1.E, v5.1.At, v5.2.Kind, v5.2.Num, v5.2.Name, v5.2.Kids) >>= Sum.elim (fun _ => none) (fun j4 =>
 some ((z01.mk j4.1 j4.2.1 j4.2.2.1 j4.2.2.2.1 j4.2.2.2.2.1), (z07.mk j4.2.2.2.2.2.1 j4.2.2.2.2.2.2.1 j4.2.2.2.2.2.2.2.1 j4.2.2.2.2.2.2.2.2))))
noncomputable def z0m : Nat → z01 → Int → Option (z01 × z07)
  | 0, _, _ => none
  | n + 1, a0, a1 => ((z0i a0 (ByteArray.mk #[45]) >>= fun v1 =>
 if v1 then (some true)
 else (z0i a0 (ByteArray.mk #[40]) >>= fun v2 =>
 some v2) : Option Bool) >>= fun j1 =>
 if j1 then (if (decide (a1 ≥ 24)) then (z3l a0 6 >>= fun v3 =>
 some (v3, (z07.mk 0 0 (ByteArray.mk #[]) [])))
 else (z0i a0 (ByteArray.mk #[45]) >>= fun v4 =>
 if v4 then ((z0m n) (z01.mk a0.L (IntKind.i64.wrap (a0.I + 1)) a0.End a0.E a0.At) (IntKind.i64.wrap (a1 + 1)) >>= fun v5 =>
 some (v5.1, (z07.mk 3 0 (ByteArray.mk #[]) [v5.2])))
 else ((z1t n) (z01.mk a0.L (IntKind.i64.wrap (a0.I + 1)) a0.End a0.E a0.At) (IntKind.i64.wrap (a1 + 1)) >>= fun v6 =>
 z09 v6.1 (ByteArray.mk #[41]) >>= fun v7 =>
 some (v7, v6.2))))
 else (((if (a0.E == 0) then (if (decide (a0.I < (a0.L.length : Int))) then (idx a0.L a0.I >>= fun v8 =>
 some (v8.Kind == 2))
 else (some false))
 else (some false) : Option Bool) >>= fun j2 =>
 if j2 then (z2u a0 >>= fun v9 =>
 some (v9.1, (z07.mk 1 v9.2 (ByteArray.mk #[]) [])))
 else (z0h a0 >>= fun v10 =>
 some (v10.1, (z07.mk 2 0 v10.2 []))))))
end

noncomputable def z5a (a0 : z01) (a1 : Int) : Option (z01 × z07) := unf fun n => z1t n a0 a1

noncomputable def z69 (v2 : (z01 × z07)) (x1 : (Int × z2b)) : Option (Sum (Int × z2b) (Sum (z01 × z2b) z2b)) :=
 if (decide (x1.1 < 6)) then (((idx [(ByteArray.mk #[61, 61]), (ByteArray.mk #[33, 61]), (ByteArray.mk #[60]), (ByteArray.mk #[60, 61]), (ByteArray.mk #[62]), (ByteArray.mk #[62, 61])] x1.1 >>= fun v3 =>
 z0i v2.1 v3 >>= fun v4 =>
 if v4 then (some (IntKind.i64.wrap (x1.1 + 1)))
 else (some x1.2.Op) : Option Int) >>= fun j2 =>
 some (.inl ((IntKind.i64.wrap (x1.1 + 1)), (z2b.mk j2 x1.2.L x1.2.R)))))
 else (some (.inr (.inr x1.2)))

noncomputable def z5u (a0 : z01) : Option (z01 × z2b) :=
 z09 a0 (ByteArray.mk #[40]) >>= fun v1 =>
 z5a v1 0 >>= fun v2 =>
 iter (z69 v2) (0, (z2b.mk 0 v2.2 (z07.mk 0 0 (ByteArray.mk #[]) []))) >>= Sum.elim (fun _ => none) (fun j1 =>
 if (j1.Op == 0) then (z3l v2.1 5 >>= fun v5 =>
 some (v5, j1))
 else (z5a (z01.mk v2.1.L (IntKind.i64.wrap (v2.1.I + 1)) v2.1.End v2.1.E v2.1.At) 0 >>= fun v6 =>
 z09 v6.1 (ByteArray.mk #[41]) >>= fun v7 =>
 some (v7, (z2b.mk j1.Op j1.L v6.2))))

def z8k (r : (z01 × z2b)) : List XV := [.agg (bs (z7v r.2))]

def z8l (r : (z01 × z2b)) : z0o := [oB 89 (bs (z0b r.1))]

noncomputable def zkh (r : (z01 × z2b)) : Tg := .r false Tryz.f66.results.toList 1 (z8k r) (z8l r)

noncomputable def z5b (F_r03_Reader_stmts : z01 → Int → Option (z01 × (List z03))) (F_r03_Reader_block : z01 → Int → Option (z01 × (List z03))) (a1 : Int) (x3 : ((List z0n) × Int × Int × Int × Int × (List z24))) : Option (Sum ((List z0n) × Int × Int × Int × Int × (List z24)) (Sum (z01 × (List z03)) ((List z0n) × Int × Int × Int × Int × (List z24)))) :=
 ((if (x3.2.2.2.1 == 0) then (if ((x3.2.2.2.2.2.length : Int) == 0) then (some true)
 else (z0i (z01.mk x3.1 x3.2.1 x3.2.2.1 x3.2.2.2.1 x3.2.2.2.2.1) (ByteArray.mk #[125]) >>= fun v20 =>
 some (!v20)))
 else (some false) : Option Bool) >>= fun j4 =>
 if j4 then (z0h (z01.mk x3.1 x3.2.1 x3.2.2.1 x3.2.2.2.1 x3.2.2.2.2.1) >>= fun v21 =>
 z09 v21.1 (ByteArray.mk #[40]) >>= fun v22 =>
 z0h v22 >>= fun v23 =>
 z09 v23.1 (ByteArray.mk #[41]) >>= fun v24 =>
 F_r03_Reader_block v24 a1 >>= fun v25 =>
 app 56 x3.2.2.2.2.2 [(z24.mk v21.2 v23.2 v25.2)] >>= fun v26 =>
 some (.inl (v25.1.L, v25.1.I, v25.1.End, v25.1.E, v25.1.At, v26)))
 else (some (.inr (.inr (x3.1, x3.2.1, x3.2.2.1, x3.2.2.2.1, x3.2.2.2.2.1, x3.2.2.2.2.2)))))

noncomputable def z3a (F_r03_Reader_stmts : z01 → Int → Option (z01 × (List z03))) (F_r03_Reader_block : z01 → Int → Option (z01 × (List z03))) (a1 : Int) (x1 : ((List z0n) × Int × Int × Int × Int × (List z03))) : Option (Sum ((List z0n) × Int × Int × Int × Int × (List z03)) (Sum (z01 × (List z03)) ((List z0n) × Int × Int × Int × Int × (List z03)))) :=
 if (x1.2.2.2.1 == 0) then (((z0i (z01.mk x1.1 x1.2.1 x1.2.2.1 x1.2.2.2.1 x1.2.2.2.2.1) (ByteArray.mk #[105, 102]) >>= fun v1 =>
 if v1 then (z5u (z01.mk x1.1 (IntKind.i64.wrap (x1.2.1 + 1)) x1.2.2.1 x1.2.2.2.1 x1.2.2.2.2.1) >>= fun v2 =>
 F_r03_Reader_block v2.1 a1 >>= fun v3 =>
 z0i v3.1 (ByteArray.mk #[101, 108, 115, 101]) >>= fun v4 =>
 if v4 then (F_r03_Reader_block (z01.mk v3.1.L (IntKind.i64.wrap (v3.1.I + 1)) v3.1.End v3.1.E v3.1.At) a1 >>= fun v5 =>
 some (.inr (v5.1.L, v5.1.I, v5.1.End, v5.1.E, v5.1.At, (z03.mk 2 (ByteArray.mk #[]) (ByteArray.mk #[]) (z07.mk 0 0 (ByteArray.mk #[]) []) v2.2 v3.2 v5.2 []), [])))
 else (some (.inr (v3.1.L, v3.1.I, v3.1.End, v3.1.E, v3.1.At, (z03.mk 2 (ByteArray.mk #[]) (ByteArray.mk #[]) (z07.mk 0 0 (ByteArray.mk #[]) []) v2.2 v3.2 [] []), []))))
 else (z0i (z01.mk x1.1 x1.2.1 x1.2.2.1 x1.2.2.2.1 x1.2.2.2.2.1) (ByteArray.mk #[119, 104, 105, 108, 101]) >>= fun v6 =>
 if v6 then (z5u (z01.mk x1.1 (IntKind.i64.wrap (x1.2.1 + 1)) x1.2.2.1 x1.2.2.2.1 x1.2.2.2.2.1) >>= fun v7 =>
 F_r03_Reader_block v7.1 a1 >>= fun v8 =>
 some (.inr (v8.1.L, v8.1.I, v8.1.End, v8.1.E, v8.1.At, (z03.mk 3 (ByteArray.mk #[]) (ByteArray.mk #[]) (z07.mk 0 0 (ByteArray.mk #[]) []) v7.2 v8.2 [] []), [])))
 else (z0i (z01.mk x1.1 x1.2.1 x1.2.2.1 x1.2.2.2.1 x1.2.2.2.2.1) (ByteArray.mk #[115, 101, 110, 100]) >>= fun v9 =>
 if v9 then (z0h (z01.mk x1.1 (IntKind.i64.wrap (x1.2.1 + 1)) x1.2.2.1 x1.2.2.2.1 x1.2.2.2.2.1) >>= fun v10 =>
 z09 v10.1 (ByteArray.mk #[46]) >>= fun v11 =>
 z0h v11 >>= fun v12 =>
 z09 v12.1 (ByteArray.mk #[40]) >>= fun v13 =>
 z5a v13 0 >>= fun v14 =>
 z09 v14.1 (ByteArray.mk #[41]) >>= fun v15 =>
 z09 v15 (ByteArray.mk #[59]) >>= fun v16 =>
 some (.inr (v16.L, v16.I, v16.End, v16.E, v16.At, (z03.mk 4 v10.2 v12.2 v14.2 (z2b.mk 0 (z07.mk 0 0 (ByteArray.mk #[]) []) (z07.mk 0 0 (ByteArray.mk #[]) [])) [] [] []), [])))
 else (z0i (z01.mk x1.1 x1.2.1 x1.2.2.1 x1.2.2.2.1 x1.2.2.2.2.1) (ByteArray.mk #[114, 101, 99, 118]) >>= fun v17 =>
 if v17 then (z0h (z01.mk x1.1 (IntKind.i64.wrap (x1.2.1 + 1)) x1.2.2.1 x1.2.2.2.1 x1.2.2.2.2.1) >>= fun v18 =>
 z09 v18.1 (ByteArray.mk #[123]) >>= fun v19 =>
 iter (z5b F_r03_Reader_stmts F_r03_Reader_block a1) (v19.L, v19.I, v19.End, v19.E, v19.At, []) >>= Sum.elim (fun _ => none) (fun j3 =>
 z09 (z01.mk j3.1 j3.2.1 j3.2.2.1 j3.2.2.2.1 j3.2.2.2.2.1) (ByteArray.mk #[125]) >>= fun v27 =>
 some (.inr (v27.L, v27.I, v27.End, v27.E, v27.At, (z03.mk 5 v18.2 (ByteArray.mk #[]) (z07.mk 0 0 (ByteArray.mk #[]) []) (z2b.mk 0 (z07.mk 0 0 (ByteArray.mk #[]) []) (z07.mk 0 0 (ByteArray.mk #[]) [])) [] [] j3.2.2.2.2.2), j3.2.2.2.2.2))))
 else (z0i (z01.mk x1.1 x1.2.1 x1.2.2.1 x1.2.2.2.1 x1.2.2.2.2.1) (ByteArray.mk #[97, 115, 115, 101, 114, 116]) >>= fun v28 =>
 if v28 then (z5u (z01.mk x1.1 (IntKind.i64.wrap (x1.2.1 + 1)) x1.2.2.1 x1.2.2.2.1 x1.2.2.2.2.1) >>= fun v29 =>
 z09 v29.1 (ByteArray.mk #[59]) >>= fun v30 =>
 some (.inr (v30.L, v30.I, v30.End, v30.E, v30.At, (z03.mk 6 (ByteArray.mk #[]) (ByteArray.mk #[]) (z07.mk 0 0 (ByteArray.mk #[]) []) v29.2 [] [] []), [])))
 else (z0i (z01.mk x1.1 x1.2.1 x1.2.2.1 x1.2.2.2.1 x1.2.2.2.2.1) (ByteArray.mk #[105, 110, 112, 117, 116]) >>= fun v31 =>
 if v31 then (z0h (z01.mk x1.1 (IntKind.i64.wrap (x1.2.1 + 1)) x1.2.2.1 x1.2.2.2.1 x1.2.2.2.2.1) >>= fun v32 =>
 z09 v32.1 (ByteArray.mk #[59]) >>= fun v33 =>
 some (.inr (v33.L, v33.I, v33.End, v33.E, v33.At, (z03.mk 7 v32.2 (ByteArray.mk #[]) (z07.mk 0 0 (ByteArray.mk #[]) []) (z2b.mk 0 (z07.mk 0 0 (ByteArray.mk #[]) []) (z07.mk 0 0 (ByteArray.mk #[]) [])) [] [] []), [])))
 else (((if (decide (x1.2.1 < (x1.1.length : Int))) then (idx x1.1 x1.2.1 >>= fun v34 =>
 some (v34.Kind == 1))
 else (some false) : Option Bool) >>= fun j5 =>
 if j5 then (z0h (z01.mk x1.1 x1.2.1 x1.2.2.1 x1.2.2.2.1 x1.2.2.2.2.1) >>= fun v35 =>
 z09 v35.1 (ByteArray.mk #[61]) >>= fun v36 =>
 z5a v36 0 >>= fun v37 =>
 z09 v37.1 (ByteArray.mk #[59]) >>= fun v38 =>
 some (.inr (v38.L, v38.I, v38.End, v38.E, v38.At, (z03.mk 1 v35.2 (ByteArray.mk #[]) v37.2 (z2b.mk 0 (z07.mk 0 0 (ByteArray.mk #[]) []) (z07.mk 0 0 (ByteArray.mk #[]) [])) [] [] []), [])))
 else (some (.inl ((z01.mk x1.1 x1.2.1 x1.2.2.1 x1.2.2.2.1 x1.2.2.2.2.1), x1.2.2.2.2.2)))))))))) : Option (Sum (z01 × (List z03)) ((List z0n) × Int × Int × Int × Int × z03 × (List z24)))) >>= Sum.elim (fun r => some (.inr (.inl r))) (fun j2 =>
 app 288 x1.2.2.2.2.2 [(z03.mk j2.2.2.2.2.2.1.Kind j2.2.2.2.2.2.1.Name j2.2.2.2.2.2.1.Tag j2.2.2.2.2.2.1.E j2.2.2.2.2.2.1.C j2.2.2.2.2.2.1.Body j2.2.2.2.2.2.1.Else j2.2.2.2.2.2.2)] >>= fun v39 =>
 some (.inl (j2.1, j2.2.1, j2.2.2.1, j2.2.2.2.1, j2.2.2.2.2.1, v39)))))
 else (some (.inr (.inr (x1.1, x1.2.1, x1.2.2.1, x1.2.2.2.1, x1.2.2.2.2.1, x1.2.2.2.2.2))))

def z5n (r : (z01 × (List z03))) : List XV := [xL (List.map z0d r.2)]

def z5o (r : (z01 × (List z03))) : z0o := [oB 89 (bs (z0b r.1))]

noncomputable def zbv (r : (z01 × (List z03))) : Tg := .r false Tryz.f31.results.toList 1 (z5n r) (z5o r)

def z5p (r : (z01 × (List z03))) : List XV := [xL (List.map z0d r.2)]

def z5q (r : (z01 × (List z03))) : z0o := [oB 89 (bs (z0b r.1))]

mutual
noncomputable def z2g : Nat → z01 → Int → Option (z01 × (List z03))
  | 0, _, _ => none
  | n + 1, a0, a1 => iter (z3a (z2g n) (z1k n) a1) (a0.L, a0.I, a0.End, a0.E, a0.At, []) >>= Sum.elim (fun r => some r) (fun j1 =>
 some ((z01.mk j1.1 j1.2.1 j1.2.2.1 j1.2.2.2.1 j1.2.2.2.2.1), j1.2.2.2.2.2))
noncomputable def z1k : Nat → z01 → Int → Option (z01 × (List z03))
  | 0, _, _ => none
  | n + 1, a0, a1 => ((z0i a0 (ByteArray.mk #[123]) >>= fun v1 =>
 if v1 then (some (decide (a1 ≥ 24)))
 else (some false) : Option Bool) >>= fun j1 =>
 if j1 then (z3l a0 6 >>= fun v2 =>
 some (v2, []))
 else (z09 a0 (ByteArray.mk #[123]) >>= fun v3 =>
 (z2g n) v3 (IntKind.i64.wrap (a1 + 1)) >>= fun v4 =>
 z09 v4.1 (ByteArray.mk #[125]) >>= fun v5 =>
 some (v5, v4.2)))
end

noncomputable def z7z (a0 : z01) (a1 : Int) : Option (z01 × (List z03)) := unf fun n => z2g n a0 a1

noncomputable def z87 (x1 : ((List z0n) × Int × Int × Int × Int × (List z3g))) : Option (Sum ((List z0n) × Int × Int × Int × Int × (List z3g)) (Sum (z0s × Int × Int) ((List z0n) × Int × Int × Int × Int × (List z3g)))) :=
 z0i (z01.mk x1.1 x1.2.1 x1.2.2.1 x1.2.2.2.1 x1.2.2.2.2.1) (ByteArray.mk #[99, 104, 97, 110]) >>= fun v2 =>
 if v2 then (z71 (z01.mk x1.1 (IntKind.i64.wrap (x1.2.1 + 1)) x1.2.2.1 x1.2.2.2.1 x1.2.2.2.2.1) >>= fun v3 =>
 app 88 x1.2.2.2.2.2 [v3.2] >>= fun v4 =>
 some (.inl (v3.1.L, v3.1.I, v3.1.End, v3.1.E, v3.1.At, v4)))
 else (some (.inr (.inr (x1.1, x1.2.1, x1.2.2.1, x1.2.2.2.1, x1.2.2.2.2.1, x1.2.2.2.2.2))))

noncomputable def z5r (x3 : ((List z0n) × Int × Int × Int × Int × (List z5m))) : Option (Sum ((List z0n) × Int × Int × Int × Int × (List z5m)) (Sum (z0s × Int × Int) ((List z0n) × Int × Int × Int × Int × (List z5m)))) :=
 ((if (x3.2.2.2.1 == 0) then (z0i (z01.mk x3.1 x3.2.1 x3.2.2.1 x3.2.2.2.1 x3.2.2.2.2.1) (ByteArray.mk #[125]) >>= fun v8 =>
 some (!v8))
 else (some false) : Option Bool) >>= fun j4 =>
 if j4 then (z2u (z01.mk x3.1 x3.2.1 x3.2.2.1 x3.2.2.2.1 x3.2.2.2.2.1) >>= fun v9 =>
 z0h v9.1 >>= fun v10 =>
 z2u v10.1 >>= fun v11 =>
 z09 v11.1 (ByteArray.mk #[59]) >>= fun v12 =>
 app 32 x3.2.2.2.2.2 [(z5m.mk v9.2 v10.2 v11.2)] >>= fun v13 =>
 some (.inl (v12.L, v12.I, v12.End, v12.E, v12.At, v13)))
 else (some (.inr (.inr (x3.1, x3.2.1, x3.2.2.1, x3.2.2.2.1, x3.2.2.2.2.1, x3.2.2.2.2.2)))))

noncomputable def z88 (x2 : ((List z0n) × Int × Int × Int × Int × (List z4q))) : Option (Sum ((List z0n) × Int × Int × Int × Int × (List z4q)) (Sum (z0s × Int × Int) ((List z0n) × Int × Int × Int × Int × (List z4q)))) :=
 z0i (z01.mk x2.1 x2.2.1 x2.2.2.1 x2.2.2.2.1 x2.2.2.2.2.1) (ByteArray.mk #[114, 117, 108, 101]) >>= fun v5 =>
 if v5 then (z0h (z01.mk x2.1 (IntKind.i64.wrap (x2.2.1 + 1)) x2.2.2.1 x2.2.2.2.1 x2.2.2.2.2.1) >>= fun v6 =>
 z09 v6.1 (ByteArray.mk #[123]) >>= fun v7 =>
 iter (z5r) (v7.L, v7.I, v7.End, v7.E, v7.At, []) >>= Sum.elim (fun _ => none) (fun j3 =>
 z09 (z01.mk j3.1 j3.2.1 j3.2.2.1 j3.2.2.2.1 j3.2.2.2.2.1) (ByteArray.mk #[125]) >>= fun v14 =>
 app 40 x2.2.2.2.2.2 [(z4q.mk v6.2 j3.2.2.2.2.2)] >>= fun v15 =>
 some (.inl (v14.L, v14.I, v14.End, v14.E, v14.At, v15))))
 else (some (.inr (.inr (x2.1, x2.2.1, x2.2.2.1, x2.2.2.2.1, x2.2.2.2.2.1, x2.2.2.2.2.2))))

noncomputable def z5s (x6 : ((List z0n) × Int × Int × Int × Int × (List ByteArray))) : Option (Sum ((List z0n) × Int × Int × Int × Int × (List ByteArray)) (Sum (z0s × Int × Int) ((List z0n) × Int × Int × Int × Int × (List ByteArray)))) :=
 z0i (z01.mk x6.1 x6.2.1 x6.2.2.1 x6.2.2.2.1 x6.2.2.2.2.1) (ByteArray.mk #[118, 97, 114]) >>= fun v19 =>
 if v19 then (z0h (z01.mk x6.1 (IntKind.i64.wrap (x6.2.1 + 1)) x6.2.2.1 x6.2.2.2.1 x6.2.2.2.2.1) >>= fun v20 =>
 app 16 x6.2.2.2.2.2 [v20.2] >>= fun v21 =>
 z09 v20.1 (ByteArray.mk #[59]) >>= fun v22 =>
 some (.inl (v22.L, v22.I, v22.End, v22.E, v22.At, v21)))
 else (some (.inr (.inr (x6.1, x6.2.1, x6.2.2.1, x6.2.2.2.1, x6.2.2.2.2.1, x6.2.2.2.2.2))))

noncomputable def z7e (x5 : ((List z0n) × Int × Int × Int × Int × (List z42))) : Option (Sum ((List z0n) × Int × Int × Int × Int × (List z42)) (Sum (z0s × Int × Int) ((List z0n) × Int × Int × Int × Int × (List z42)))) :=
 z0i (z01.mk x5.1 x5.2.1 x5.2.2.1 x5.2.2.2.1 x5.2.2.2.2.1) (ByteArray.mk #[112, 114, 111, 99]) >>= fun v16 =>
 if v16 then (z0h (z01.mk x5.1 (IntKind.i64.wrap (x5.2.1 + 1)) x5.2.2.1 x5.2.2.2.1 x5.2.2.2.2.1) >>= fun v17 =>
 z09 v17.1 (ByteArray.mk #[123]) >>= fun v18 =>
 iter (z5s) (v18.L, v18.I, v18.End, v18.E, v18.At, []) >>= Sum.elim (fun _ => none) (fun j6 =>
 z7z (z01.mk j6.1 j6.2.1 j6.2.2.1 j6.2.2.2.1 j6.2.2.2.2.1) 0 >>= fun v23 =>
 z09 v23.1 (ByteArray.mk #[125]) >>= fun v24 =>
 app 64 x5.2.2.2.2.2 [(z42.mk v17.2 j6.2.2.2.2.2 v23.2)] >>= fun v25 =>
 some (.inl (v24.L, v24.I, v24.End, v24.E, v24.At, v25))))
 else (some (.inr (.inr (x5.1, x5.2.1, x5.2.2.1, x5.2.2.2.1, x5.2.2.2.2.1, x5.2.2.2.2.2))))

noncomputable def ze4 (a0 : ByteArray) : Option (z0s × Int × Int) :=
 zgi a0 >>= fun v1 =>
 if (v1.2.2 != 0) then (some ((z0s.mk [] [] []), v1.2.1, v1.2.2))
 else (iter (z87) (v1.1, 0, (a0.size : Int), 0, 0, []) >>= Sum.elim (fun _ => none) (fun j1 =>
 iter (z88) (j1.1, j1.2.1, j1.2.2.1, j1.2.2.2.1, j1.2.2.2.2.1, []) >>= Sum.elim (fun _ => none) (fun j2 =>
 iter (z7e) (j2.1, j2.2.1, j2.2.2.1, j2.2.2.2.1, j2.2.2.2.2.1, []) >>= Sum.elim (fun _ => none) (fun j5 =>
 if (decide (j5.2.1 < (j5.1.length : Int))) then (z3l (z01.mk j5.1 j5.2.1 j5.2.2.1 j5.2.2.2.1 j5.2.2.2.2.1) 5 >>= fun v26 =>
 if (v26.E != 0) then (some ((z0s.mk [] [] []), v26.At, v26.E))
 else (some ((z0s.mk j1.2.2.2.2.2 j2.2.2.2.2.2 j5.2.2.2.2.2), 0, 0)))
 else (if (j5.2.2.2.1 != 0) then (some ((z0s.mk [] [] []), j5.2.2.2.2.1, j5.2.2.2.1))
 else (some ((z0s.mk j1.2.2.2.2.2 j2.2.2.2.2.2 j5.2.2.2.2.2), 0, 0)))))))

def ze5 (r : (z0s × Int × Int)) : List XV := [.agg (bs (z15 r.1)), xI r.2.1, xI r.2.2]

def zmc (r : (z0s × Int × Int)) : z0o := []

noncomputable def ze6 (r : (z0s × Int × Int)) : Tg := .r false Tryz.f10.results.toList 0 (ze5 r) (zmc r)

noncomputable def zcf (F_l02_Expr : z07 → Option z05) (a0 : z07) (x1 : (Int × (List z05))) : Option (Sum (Int × (List z05)) (Sum z05 (List z05))) :=
 if (decide (x1.1 < (a0.Kids.length : Int))) then (idx a0.Kids x1.1 >>= fun v1 =>
 F_l02_Expr v1 >>= fun v2 =>
 app 56 x1.2 [v2] >>= fun v3 =>
 some (.inl ((IntKind.i64.wrap (x1.1 + 1)), v3)))
 else (some (.inr (.inr x1.2)))

def z98 (r : z05) : List XV := [.agg (bs (z38 r))]

def zo7 (r : z05) : z0o := []

noncomputable def zwc (r : z05) : Tg := .r false Tryz.f73.results.toList 0 (z98 r) (zo7 r)

noncomputable def zad : Nat → z07 → Option z05
  | 0, _ => none
  | n + 1, a0 => iter (zcf (zad n) a0) (0, []) >>= Sum.elim (fun _ => none) (fun j1 =>
 some (z05.mk a0.Kind a0.Num a0.Name j1))

noncomputable def zjj (a0 : z07) : Option z05 := unf fun n => zad n a0

noncomputable def zjk (a0 : z2b) : Option z41 :=
 zjj a0.L >>= fun v1 =>
 zjj a0.R >>= fun v2 =>
 some (z41.mk a0.Op v1 v2)

def zki (r : z41) : List XV := [.agg (bs (zdn r))]

def zwd (r : z41) : z0o := []

noncomputable def zbi (F_l02_Stmts : (List z03) → Option (List z04)) (v1 : z03) (x2 : (Int × (List z13))) : Option (Sum (Int × (List z13)) (Sum (List z04) (List z13))) :=
 if (decide (x2.1 < (v1.Arms.length : Int))) then (idx v1.Arms x2.1 >>= fun v6 =>
 F_l02_Stmts v6.Body >>= fun v7 =>
 app 56 x2.2 [(z13.mk v6.Tag v6.Var v7)] >>= fun v8 =>
 some (.inl ((IntKind.i64.wrap (x2.1 + 1)), v8)))
 else (some (.inr (.inr x2.2)))

noncomputable def zbj (F_l02_Stmts : (List z03) → Option (List z04)) (a0 : (List z03)) (x1 : (Int × (List z04))) : Option (Sum (Int × (List z04)) (Sum (List z04) (List z04))) :=
 if (decide (x1.1 < (a0.length : Int))) then (idx a0 x1.1 >>= fun v1 =>
 zjj v1.E >>= fun v2 =>
 zjk v1.C >>= fun v3 =>
 F_l02_Stmts v1.Body >>= fun v4 =>
 F_l02_Stmts v1.Else >>= fun v5 =>
 iter (zbi F_l02_Stmts v1) (0, []) >>= Sum.elim (fun _ => none) (fun j2 =>
 app 288 x1.2 [(z04.mk v1.Kind v1.Name v1.Tag v2 v3 v4 v5 j2)] >>= fun v9 =>
 some (.inl ((IntKind.i64.wrap (x1.1 + 1)), v9))))
 else (some (.inr (.inr x1.2)))

def z8d (r : (List z04)) : List XV := [xL (List.map z16 r)]

def zmd (r : (List z04)) : z0o := []

noncomputable def zme (r : (List z04)) : Tg := .r false Tryz.f43.results.toList 0 (z8d r) (zmd r)

noncomputable def z81 : Nat → (List z03) → Option (List z04)
  | 0, _ => none
  | n + 1, a0 => iter (zbj (z81 n) a0) (0, []) >>= Sum.elim (fun _ => none) (fun j1 =>
 some j1)

noncomputable def zmf (a0 : (List z03)) : Option (List z04) := unf fun n => z81 n a0

noncomputable def z9y (a0 : z0s) (x1 : (Int × (List z33))) : Option (Sum (Int × (List z33)) (Sum z22 (List z33))) :=
 if (decide (x1.1 < (a0.Chans.length : Int))) then (idx a0.Chans x1.1 >>= fun v1 =>
 app 16 [] v1.Tags >>= fun v2 =>
 app 88 x1.2 [(z33.mk v1.Name v1.Kind v1.Size v1.From v1.To v2)] >>= fun v3 =>
 some (.inl ((IntKind.i64.wrap (x1.1 + 1)), v3)))
 else (some (.inr (.inr x1.2)))

noncomputable def z9z (a0 : z0s) (x2 : (Int × (List z3b))) (x3 : (Int × (List z4h))) : Option (Sum (Int × (List z4h)) (Sum z22 (List z4h))) :=
 idx a0.Rules x2.1 >>= fun v5 =>
 if (decide (x3.1 < (v5.Moves.length : Int))) then (idx a0.Rules x2.1 >>= fun v6 =>
 idx v6.Moves x3.1 >>= fun v7 =>
 app 32 x3.2 [(z4h.mk v7.From v7.Tag v7.To)] >>= fun v8 =>
 some (.inl ((IntKind.i64.wrap (x3.1 + 1)), v8)))
 else (some (.inr (.inr x3.2)))

noncomputable def za0 (a0 : z0s) (x2 : (Int × (List z3b))) : Option (Sum (Int × (List z3b)) (Sum z22 (List z3b))) :=
 if (decide (x2.1 < (a0.Rules.length : Int))) then (idx a0.Rules x2.1 >>= fun v4 =>
 iter (z9z a0 x2) (0, []) >>= Sum.elim (fun _ => none) (fun j3 =>
 app 40 x2.2 [(z3b.mk v4.Chan j3)] >>= fun v9 =>
 some (.inl ((IntKind.i64.wrap (x2.1 + 1)), v9))))
 else (some (.inr (.inr x2.2)))

noncomputable def za1 (a0 : z0s) (x4 : (Int × (List z3f))) : Option (Sum (Int × (List z3f)) (Sum z22 (List z3f))) :=
 if (decide (x4.1 < (a0.Procs.length : Int))) then (idx a0.Procs x4.1 >>= fun v10 =>
 app 16 [] v10.Vars >>= fun v11 =>
 zmf v10.Body >>= fun v12 =>
 app 64 x4.2 [(z3f.mk v10.Name v11 v12)] >>= fun v13 =>
 some (.inl ((IntKind.i64.wrap (x4.1 + 1)), v13)))
 else (some (.inr (.inr x4.2)))

noncomputable def zcg (a0 : z0s) : Option z22 :=
 iter (z9y a0) (0, []) >>= Sum.elim (fun _ => none) (fun j1 =>
 iter (za0 a0) (0, []) >>= Sum.elim (fun _ => none) (fun j2 =>
 iter (za1 a0) (0, []) >>= Sum.elim (fun _ => none) (fun j4 =>
 some (z22.mk j1 j2 j4))))

def z8n (r : z22) : List XV := [.agg (bs (zay r))]

def zl0 (r : z22) : z0o := []

noncomputable def zel (r : z22) : Tg := .r false Tryz.f13.results.toList 0 (z8n r) (zl0 r)

noncomputable def zbk (a0 : (List z4h)) (a1 : (List z4h)) (x1 : Int) : Option (Sum Int (Sum Bool Unit)) :=
 if (decide (x1 < (a0.length : Int))) then (idx a0 x1 >>= fun v1 =>
 idx a1 x1 >>= fun v2 =>
 if (!((v1.From : Int) == v2.From && (v1.Tag.toList == v2.Tag.toList && ((v1.To : Int) == v2.To && true)))) then (some (.inr (.inl false)))
 else (some (.inl (IntKind.i64.wrap (x1 + 1)))))
 else (some (.inr (.inr ())))

noncomputable def zgp (a0 : (List z4h)) (a1 : (List z4h)) : Option Bool :=
 if ((a0.length : Int) != (a1.length : Int)) then (some false)
 else (iter (zbk a0 a1) 0 >>= Sum.elim (fun r => some r) (fun j1 =>
 some true))

def zfv (r : Bool) : List XV := [xB r]

def zmg (r : Bool) : z0o := []

noncomputable def zsj (r : Bool) : Tg := .r false Tryz.f35.results.toList 0 (zfv r) (zmg r)

noncomputable def zhj (a0 : z3b) (a1 : z3b) : Option Bool :=
 if (a0.Chan.toList == a1.Chan.toList) then (zgp a0.Moves a1.Moves >>= fun v1 =>
 some v1)
 else (some false)

def zgq (r : Bool) : List XV := [xB r]

def zqt (r : Bool) : z0o := []

noncomputable def z5h (a0 : (List z3b)) (a1 : (List z3b)) (x1 : Int) : Option (Sum Int (Sum Bool Unit)) :=
 if (decide (x1 < (a0.length : Int))) then (idx a0 x1 >>= fun v1 =>
 idx a1 x1 >>= fun v2 =>
 zhj v1 v2 >>= fun v3 =>
 if (!v3) then (some (.inr (.inl false)))
 else (some (.inl (IntKind.i64.wrap (x1 + 1)))))
 else (some (.inr (.inr ())))

noncomputable def z7a (a0 : (List z3b)) (a1 : (List z3b)) : Option Bool :=
 if ((a0.length : Int) != (a1.length : Int)) then (some false)
 else (iter (z5h a0 a1) 0 >>= Sum.elim (fun r => some r) (fun j1 =>
 some true))

def z7s (r : Bool) : List XV := [xB r]

def zc2 (r : Bool) : z0o := []

noncomputable def zg3 (r : Bool) : Tg := .r false Tryz.f33.results.toList 0 (z7s r) (zc2 r)

noncomputable def z3w (a0 : (List ByteArray)) (a1 : (List ByteArray)) (x1 : Int) : Option (Sum Int (Sum Bool Unit)) :=
 if (decide (x1 < (a0.length : Int))) then (idx a0 x1 >>= fun v1 =>
 idx a1 x1 >>= fun v2 =>
 if (!(v1.toList == v2.toList)) then (some (.inr (.inl false)))
 else (some (.inl (IntKind.i64.wrap (x1 + 1)))))
 else (some (.inr (.inr ())))

noncomputable def z4l (a0 : (List ByteArray)) (a1 : (List ByteArray)) : Option Bool :=
 if ((a0.length : Int) != (a1.length : Int)) then (some false)
 else (iter (z3w a0 a1) 0 >>= Sum.elim (fun r => some r) (fun j1 =>
 some true))

def z40 (r : Bool) : List XV := [xB r]

def z94 (r : Bool) : z0o := []

noncomputable def zd4 (r : Bool) : Tg := .r false Tryz.f38.results.toList 0 (z40 r) (z94 r)

def z5c (r : Bool) : List XV := [xB r]

def zne (r : Bool) : z0o := []

noncomputable def z4u (F_ast_sameExpr : z05 → z05 → Option Bool) (F_ast_Expr__ast_sameExpr : (List z05) → (List z05) → Option Bool) (a0 : (List z05)) (a1 : (List z05)) (x1 : Int) : Option (Sum Int (Sum Bool Unit)) :=
 if (decide (x1 < (a0.length : Int))) then (idx a0 x1 >>= fun v1 =>
 idx a1 x1 >>= fun v2 =>
 F_ast_sameExpr v1 v2 >>= fun v3 =>
 if (!v3) then (some (.inr (.inl false)))
 else (some (.inl (IntKind.i64.wrap (x1 + 1)))))
 else (some (.inr (.inr ())))

def z4m (r : Bool) : List XV := [xB r]

def zbl (r : Bool) : z0o := []

noncomputable def zf2 (r : Bool) : Tg := .r false Tryz.f101.results.toList 0 (z4m r) (zbl r)

mutual
noncomputable def z5i : Nat → z05 → z05 → Option Bool
  | 0, _, _ => none
  | n + 1, a0, a1 => ((if (a0.Kind != a1.Kind) then (some true)
 else (if (a0.Kind == 1) then (if (a0.Num != a1.Num) then (some true)
 else (if (a0.Kind == 2) then (some (!(a0.Name.toList == a1.Name.toList)))
 else (some false)))
 else (if (a0.Kind == 2) then (some (!(a0.Name.toList == a1.Name.toList)))
 else (some false))) : Option Bool) >>= fun j1 =>
 if j1 then (some false)
 else ((z2j n) a0.Kids a1.Kids >>= fun v1 =>
 some v1))
noncomputable def z2j : Nat → (List z05) → (List z05) → Option Bool
  | 0, _, _ => none
  | n + 1, a0, a1 => if ((a0.length : Int) != (a1.length : Int)) then (some false)
 else (iter (z4u (z5i n) (z2j n) a0 a1) 0 >>= Sum.elim (fun r => some r) (fun j1 =>
 some true))
end

noncomputable def zbm (a0 : z05) (a1 : z05) : Option Bool := unf fun n => z5i n a0 a1

noncomputable def z9l (a0 : z41) (a1 : z41) : Option Bool :=
 if (a0.Op == a1.Op) then (zbm a0.L a1.L >>= fun v1 =>
 if v1 then (zbm a0.R a1.R >>= fun v2 =>
 some v2)
 else (some false))
 else (some false)

def z7f (r : Bool) : List XV := [xB r]

def znf (r : Bool) : z0o := []

noncomputable def z4v (F_ast_Stmt__ast_sameStmt : (List z04) → (List z04) → Option Bool) (F_ast_sameStmt : z04 → z04 → Option Bool) (F_ast_Arm__ast_sameArm : (List z13) → (List z13) → Option Bool) (F_ast_sameArm : z13 → z13 → Option Bool) (a0 : (List z04)) (a1 : (List z04)) (x1 : Int) : Option (Sum Int (Sum Bool Unit)) :=
 if (decide (x1 < (a0.length : Int))) then (idx a0 x1 >>= fun v1 =>
 idx a1 x1 >>= fun v2 =>
 F_ast_sameStmt v1 v2 >>= fun v3 =>
 if (!v3) then (some (.inr (.inl false)))
 else (some (.inl (IntKind.i64.wrap (x1 + 1)))))
 else (some (.inr (.inr ())))

def z1l (r : Bool) : List XV := [xB r]

def zbn (r : Bool) : z0o := []

noncomputable def zf3 (r : Bool) : Tg := .r false Tryz.f39.results.toList 0 (z1l r) (zbn r)

def z7g (r : Bool) : List XV := [xB r]

def zng (r : Bool) : z0o := []

noncomputable def z5j (F_ast_Stmt__ast_sameStmt : (List z04) → (List z04) → Option Bool) (F_ast_sameStmt : z04 → z04 → Option Bool) (F_ast_Arm__ast_sameArm : (List z13) → (List z13) → Option Bool) (F_ast_sameArm : z13 → z13 → Option Bool) (a0 : (List z13)) (a1 : (List z13)) (x1 : Int) : Option (Sum Int (Sum Bool Unit)) :=
 if (decide (x1 < (a0.length : Int))) then (idx a0 x1 >>= fun v1 =>
 idx a1 x1 >>= fun v2 =>
 F_ast_sameArm v1 v2 >>= fun v3 =>
 if (!v3) then (some (.inr (.inl false)))
 else (some (.inl (IntKind.i64.wrap (x1 + 1)))))
 else (some (.inr (.inr ())))

def z3u (r : Bool) : List XV := [xB r]

def zc3 (r : Bool) : z0o := []

noncomputable def zg4 (r : Bool) : Tg := .r false Tryz.f71.results.toList 0 (z3u r) (zc3 r)

def z89 (r : Bool) : List XV := [xB r]

def zoy (r : Bool) : z0o := []

mutual
noncomputable def z11 : Nat → (List z04) → (List z04) → Option Bool
  | 0, _, _ => none
  | n + 1, a0, a1 => if ((a0.length : Int) != (a1.length : Int)) then (some false)
 else (iter (z4v (z11 n) (z3v n) (z1p n) (z4n n) a0 a1) 0 >>= Sum.elim (fun r => some r) (fun j1 =>
 some true))
noncomputable def z3v : Nat → z04 → z04 → Option Bool
  | 0, _, _ => none
  | n + 1, a0, a1 => if (a0.Kind != a1.Kind) then (some false)
 else (if (a0.Kind == 1) then (((if (a0.Name.toList == a1.Name.toList) then (zbm a0.E a1.E >>= fun v1 =>
 some v1)
 else (some false) : Option Bool) >>= fun j1 =>
 some j1))
 else (if (a0.Kind == 2) then (((z9l a0.C a1.C >>= fun v2 =>
 if v2 then ((z11 n) a0.Body a1.Body >>= fun v3 =>
 if v3 then ((z11 n) a0.Else a1.Else >>= fun v4 =>
 some v4)
 else (some false))
 else (some false) : Option Bool) >>= fun j2 =>
 some j2))
 else (if (a0.Kind == 3) then (((z9l a0.C a1.C >>= fun v5 =>
 if v5 then ((z11 n) a0.Body a1.Body >>= fun v6 =>
 some v6)
 else (some false) : Option Bool) >>= fun j3 =>
 some j3))
 else (if (a0.Kind == 4) then (((if (a0.Name.toList == a1.Name.toList) then (if (a0.Tag.toList == a1.Tag.toList) then (zbm a0.E a1.E >>= fun v7 =>
 some v7)
 else (some false))
 else (some false) : Option Bool) >>= fun j4 =>
 some j4))
 else (if (a0.Kind == 5) then (((if (a0.Name.toList == a1.Name.toList) then ((z1p n) a0.Arms a1.Arms >>= fun v8 =>
 some v8)
 else (some false) : Option Bool) >>= fun j5 =>
 some j5))
 else (if (a0.Kind == 6) then (z9l a0.C a1.C >>= fun v9 =>
 some v9)
 else (if (a0.Kind == 7) then (some (a0.Name.toList == a1.Name.toList))
 else (some true))))))))
noncomputable def z1p : Nat → (List z13) → (List z13) → Option Bool
  | 0, _, _ => none
  | n + 1, a0, a1 => if ((a0.length : Int) != (a1.length : Int)) then (some false)
 else (iter (z5j (z11 n) (z3v n) (z1p n) (z4n n) a0 a1) 0 >>= Sum.elim (fun r => some r) (fun j1 =>
 some true))
noncomputable def z4n : Nat → z13 → z13 → Option Bool
  | 0, _, _ => none
  | n + 1, a0, a1 => if (a0.Tag.toList == a1.Tag.toList) then (if (a0.Var.toList == a1.Var.toList) then ((z11 n) a0.Body a1.Body >>= fun v1 =>
 some v1)
 else (some false))
 else (some false)
end

noncomputable def z9d (a0 : (List z04)) (a1 : (List z04)) : Option Bool := unf fun n => z11 n a0 a1

noncomputable def zhk (a0 : z3f) (a1 : z3f) : Option Bool :=
 if (a0.Name.toList == a1.Name.toList) then (z4l a0.Vars a1.Vars >>= fun v1 =>
 if v1 then (z9d a0.Body a1.Body >>= fun v2 =>
 some v2)
 else (some false))
 else (some false)

def zgr (r : Bool) : List XV := [xB r]

def zqu (r : Bool) : z0o := []

noncomputable def z5k (a0 : (List z3f)) (a1 : (List z3f)) (x1 : Int) : Option (Sum Int (Sum Bool Unit)) :=
 if (decide (x1 < (a0.length : Int))) then (idx a0 x1 >>= fun v1 =>
 idx a1 x1 >>= fun v2 =>
 zhk v1 v2 >>= fun v3 =>
 if (!v3) then (some (.inr (.inl false)))
 else (some (.inl (IntKind.i64.wrap (x1 + 1)))))
 else (some (.inr (.inr ())))

noncomputable def z7b (a0 : (List z3f)) (a1 : (List z3f)) : Option Bool :=
 if ((a0.length : Int) != (a1.length : Int)) then (some false)
 else (iter (z5k a0 a1) 0 >>= Sum.elim (fun r => some r) (fun j1 =>
 some true))

def z7t (r : Bool) : List XV := [xB r]

def zc4 (r : Bool) : z0o := []

noncomputable def zg5 (r : Bool) : Tg := .r false Tryz.f36.results.toList 0 (z7t r) (zc4 r)

noncomputable def zem (a0 : z33) (a1 : z33) : Option Bool :=
 ((if (a0.Name.toList == a1.Name.toList) then (if (a0.Kind == a1.Kind) then (if (a0.Size == a1.Size) then (if (a0.From.toList == a1.From.toList) then (if (a0.To.toList == a1.To.toList) then (z4l a0.Tags a1.Tags >>= fun v1 =>
 some v1)
 else (some false))
 else (some false))
 else (some false))
 else (some false))
 else (some false) : Option Bool) >>= fun j1 =>
 some j1)

def zeu (r : Bool) : List XV := [xB r]

def znh (r : Bool) : z0o := []

noncomputable def z4w (a0 : (List z33)) (a1 : (List z33)) (x1 : Int) : Option (Sum Int (Sum Bool Unit)) :=
 if (decide (x1 < (a0.length : Int))) then (idx a0 x1 >>= fun v1 =>
 idx a1 x1 >>= fun v2 =>
 zem v1 v2 >>= fun v3 =>
 if (!v3) then (some (.inr (.inl false)))
 else (some (.inl (IntKind.i64.wrap (x1 + 1)))))
 else (some (.inr (.inr ())))

noncomputable def z6h (a0 : (List z33)) (a1 : (List z33)) : Option Bool :=
 if ((a0.length : Int) != (a1.length : Int)) then (some false)
 else (iter (z4w a0 a1) 0 >>= Sum.elim (fun r => some r) (fun j1 =>
 some true))

def z73 (r : Bool) : List XV := [xB r]

def zbo (r : Bool) : z0o := []

noncomputable def zf4 (r : Bool) : Tg := .r false Tryz.f41.results.toList 0 (z73 r) (zbo r)

noncomputable def zfw (a0 : z22) (a1 : z22) : Option Bool :=
 z7a a0.Rules a1.Rules >>= fun v1 =>
 z7b a0.Procs a1.Procs >>= fun v2 =>
 if v1 then (if v2 then (z6h a0.Chans a1.Chans >>= fun v3 =>
 some v3)
 else (some false))
 else (some false)

def zch (r : Bool) : List XV := [xB r]

def zwe (r : Bool) : z0o := []

noncomputable def z6d (a2 : ByteArray) (v1 : ((List ByteArray) × Int)) (v4 : Int) (x2 : (ByteArray × ByteArray × Int)) : Option (Sum (ByteArray × ByteArray × Int) (Sum Bool (ByteArray × ByteArray))) :=
 if (decide (x2.2.2 < (v1.1.length : Int))) then (((if (decide (x2.2.2 < (IntKind.i64.wrap v4))) then (idx v1.1 x2.2.2 >>= fun v5 =>
 scat x2.1 v5 >>= fun v6 =>
 scat v6 (ByteArray.mk #[32]) >>= fun v7 =>
 if (x2.2.2 == (IntKind.i64.wrap v4)) then (ssub a2 0 (min (a2.size : Int) 14) >>= fun v8 =>
 scat x2.2.1 v8 >>= fun v9 =>
 scat v9 (ByteArray.mk #[32]) >>= fun v10 =>
 some (v7, v10))
 else (idx v1.1 x2.2.2 >>= fun v11 =>
 scat x2.2.1 v11 >>= fun v12 =>
 scat v12 (ByteArray.mk #[32]) >>= fun v13 =>
 some (v7, v13)))
 else (if (x2.2.2 == (IntKind.i64.wrap v4)) then (ssub a2 0 (min (a2.size : Int) 14) >>= fun v14 =>
 scat x2.2.1 v14 >>= fun v15 =>
 scat v15 (ByteArray.mk #[32]) >>= fun v16 =>
 some (x2.1, v16))
 else (idx v1.1 x2.2.2 >>= fun v17 =>
 scat x2.2.1 v17 >>= fun v18 =>
 scat v18 (ByteArray.mk #[32]) >>= fun v19 =>
 some (x2.1, v19))) : Option (ByteArray × ByteArray)) >>= fun j3 =>
 some (.inl (j3.1, j3.2, (IntKind.i64.wrap (x2.2.2 + 1))))))
 else (some (.inr (.inr (x2.1, x2.2.1))))

noncomputable def zdk (a0 : z0s) (a1 : Int) (a2 : ByteArray) : Option Bool :=
 zgn a0 >>= fun v1 =>
 ((zdp >>= fun v2 =>
 if (!v2) then (some true)
 else (if (v1.2 != 0) then (some true)
 else (some ((v1.1.length : Int) == 0))) : Option Bool) >>= fun j1 =>
 if j1 then (zdp >>= fun v3 =>
 some v3)
 else (rem (IntKind.u64.wrap a1) (IntKind.u64.wrap (v1.1.length : Int)) >>= fun v4 =>
 iter (z6d a2 v1 v4) ((ByteArray.mk #[]), (ByteArray.mk #[]), 0) >>= Sum.elim (fun _ => none) (fun j2 =>
 z8y j2.1 >>= fun v20 =>
 ze4 j2.1 >>= fun v21 =>
 z8y j2.2 >>= fun v22 =>
 ze4 j2.2 >>= fun v23 =>
 ((if (v20.2.1 == v21.2.1) then (if (v20.2.2 == v21.2.2) then (zcg v21.1 >>= fun v24 =>
 zfw v20.1 v24 >>= fun v25 =>
 if v25 then (if (v22.2.1 == v23.2.1) then (if (v22.2.2 == v23.2.2) then (zcg v23.1 >>= fun v26 =>
 zfw v22.1 v26 >>= fun v27 =>
 some v27)
 else (some false))
 else (some false))
 else (some false))
 else (some false))
 else (some false) : Option Bool) >>= fun j4 =>
 some j4))))

def ze7 (r : Bool) : List XV := [xB r]

def zgs (r : Bool) : z0o := []

noncomputable def zmh (r : Bool) : Tg := .r false Tryz.f5.results.toList 0 (ze7 r) (zgs r)
end Go.Proofs.YtokjbpmjdcbogaaGreatDoor.Abs
