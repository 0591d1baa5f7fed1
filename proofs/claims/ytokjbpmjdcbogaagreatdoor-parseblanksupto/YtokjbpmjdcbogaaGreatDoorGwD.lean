/- Gw: the functions, told by typed values. -/
import Derived.Test.YtokjbpmjdcbogaaGreatDoorHandT
import Derived.Test.YtokjbpmjdcbogaaGreatDoorProg
namespace Go.Proofs.YtokjbpmjdcbogaaGreatDoor.Abs
open Go Go.RowKit
set_option linter.unusedVariables false

structure z24 where
 Name : ByteArray
 Kind : Int
 Size : Int
 From : ByteArray
 To : ByteArray
 Tags : (List ByteArray)
structure z35 where
 From : Int
 Tag : ByteArray
 To : Int
structure z2c where
 Chan : ByteArray
 Moves : (List z35)
structure z03 where
 Kind : Int
 Num : Int
 Name : ByteArray
 Kids : (List z03)
structure z2n where
 Op : Int
 L : z03
 R : z03
mutual
inductive z0n where
 | mk (Tag : ByteArray) (Var : ByteArray) (Body : (List z02))
inductive z02 where
 | mk (Kind : Int) (Name : ByteArray) (Tag : ByteArray) (E : z03) (C : z2n) (Body : (List z02)) (Else : (List z02)) (Arms : (List z0n))
end
def z0n.Tag : z0n → ByteArray
 | .mk x _ _ => x
def z0n.Var : z0n → ByteArray
 | .mk _ x _ => x
def z0n.Body : z0n → (List z02)
 | .mk _ _ x => x
def z02.Kind : z02 → Int
 | .mk x _ _ _ _ _ _ _ => x
def z02.Name : z02 → ByteArray
 | .mk _ x _ _ _ _ _ _ => x
def z02.Tag : z02 → ByteArray
 | .mk _ _ x _ _ _ _ _ => x
def z02.E : z02 → z03
 | .mk _ _ _ x _ _ _ _ => x
def z02.C : z02 → z2n
 | .mk _ _ _ _ x _ _ _ => x
def z02.Body : z02 → (List z02)
 | .mk _ _ _ _ _ x _ _ => x
def z02.Else : z02 → (List z02)
 | .mk _ _ _ _ _ _ x _ => x
def z02.Arms : z02 → (List z0n)
 | .mk _ _ _ _ _ _ _ x => x
structure z2d where
 Name : ByteArray
 Vars : (List ByteArray)
 Body : (List z02)
structure z5b where
 Name : ByteArray
 Kind : Int
 Size : Int
 From : ByteArray
 To : ByteArray
 Tags : (List ByteArray)
structure z7j where
 From : Int
 Tag : ByteArray
 To : Int
structure z5p where
 Chan : ByteArray
 Moves : (List z7j)
structure z09 where
 Kind : Int
 Num : Int
 Name : ByteArray
 Kids : (List z09)
structure z3z where
 Op : Int
 L : z09
 R : z09
mutual
inductive z2h where
 | mk (Tag : ByteArray) (Var : ByteArray) (Body : (List z05))
inductive z05 where
 | mk (Kind : Int) (Name : ByteArray) (Tag : ByteArray) (E : z09) (C : z3z) (Body : (List z05)) (Else : (List z05)) (Arms : (List z2h))
end
def z2h.Tag : z2h → ByteArray
 | .mk x _ _ => x
def z2h.Var : z2h → ByteArray
 | .mk _ x _ => x
def z2h.Body : z2h → (List z05)
 | .mk _ _ x => x
def z05.Kind : z05 → Int
 | .mk x _ _ _ _ _ _ _ => x
def z05.Name : z05 → ByteArray
 | .mk _ x _ _ _ _ _ _ => x
def z05.Tag : z05 → ByteArray
 | .mk _ _ x _ _ _ _ _ => x
def z05.E : z05 → z09
 | .mk _ _ _ x _ _ _ _ => x
def z05.C : z05 → z3z
 | .mk _ _ _ _ x _ _ _ => x
def z05.Body : z05 → (List z05)
 | .mk _ _ _ _ _ x _ _ => x
def z05.Else : z05 → (List z05)
 | .mk _ _ _ _ _ _ x _ => x
def z05.Arms : z05 → (List z2h)
 | .mk _ _ _ _ _ _ _ x => x
structure z4q where
 Name : ByteArray
 Vars : (List ByteArray)
 Body : (List z05)
structure z0b where
 Kind : Int
 Text : ByteArray
 Num : Int
 At : Int
structure z39 where
 Kind : Int
 Text : ByteArray
 Num : Int
 At : Int
structure z16 where
 Chans : (List z5b)
 Rules : (List z5p)
 Procs : (List z4q)
def z1d (x : ByteArray) : List PV := [.str x]
def z4u (x : z5b) : List PV := [.str x.Name, .int .i64 x.Kind, .int .i64 x.Size, .str x.From, .str x.To, .sl (List.map z1d x.Tags)]
def z2i (x : z39) : List PV := [.int .i64 x.Kind, .str x.Text, .int .i64 x.Num, .int .i64 x.At]
def z66 (x : z7j) : List PV := [.int .i64 x.From, .str x.Tag, .int .i64 x.To]
def z3m (x : z5p) : List PV := [.str x.Chan, .sl (List.map z66 x.Moves)]
mutual
def z2u : z09 → List PV
 | .mk z_Kind z_Num z_Name z_Kids => [.int .i64 z_Kind, .int .i64 z_Num, .str z_Name, .sl (zcg z_Kids)]
def zcg : List z09 → List (List PV)
 | [] => []
 | x :: xs => z2u x :: zcg xs
end
theorem zel : ∀ l, zcg l = List.map z2u l
 | [] => rfl
 | x :: xs => by rw [zcg, zel xs]; rfl
theorem z25 (x : z09) : z2u x = [.int .i64 x.Kind, .int .i64 x.Num, .str x.Name, .sl (List.map z2u x.Kids)] := by
 cases x; rw [z2u, zel]
theorem zkn (x : z09) : (z2u x).length = 4 := by rw [z25]; rfl
mutual
def z6r : z2h → List PV
 | .mk z_Tag z_Var z_Body => [.str z_Tag, .str z_Var, .sl (z7n z_Body)]
def zbx : List z2h → List (List PV)
 | [] => []
 | x :: xs => z6r x :: zbx xs
def z0a : z05 → List PV
 | .mk z_Kind z_Name z_Tag z_E z_C z_Body z_Else z_Arms => [.int .i64 z_Kind, .str z_Name, .str z_Tag, .int .i64 z_E.Kind, .int .i64 z_E.Num, .str z_E.Name, .sl (List.map z2u z_E.Kids), .int .i64 z_C.Op, .int .i64 z_C.L.Kind, .int .i64 z_C.L.Num, .str z_C.L.Name, .sl (List.map z2u z_C.L.Kids), .int .i64 z_C.R.Kind, .int .i64 z_C.R.Num, .str z_C.R.Name, .sl (List.map z2u z_C.R.Kids), .sl (z7n z_Body), .sl (z7n z_Else), .sl (zbx z_Arms)]
def z7n : List z05 → List (List PV)
 | [] => []
 | x :: xs => z0a x :: z7n xs
end
theorem zfs : ∀ l, zbx l = List.map z6r l
 | [] => by rw [zbx]; rfl
 | x :: xs => by rw [zbx, zfs xs]; rfl
theorem zby : ∀ l, z7n l = List.map z0a l
 | [] => by rw [z7n]; rfl
 | x :: xs => by rw [z7n, zby xs]; rfl
theorem z40 (x : z2h) : z6r x = [.str x.Tag, .str x.Var, .sl (List.map z0a x.Body)] := by
 cases x; rw [z6r]; simp only [zby]; first | done | rfl
theorem zma (x : z2h) : (z6r x).length = 3 := by rw [z40]; rfl
theorem z7z (x : z05) : z0a x = [.int .i64 x.Kind, .str x.Name, .str x.Tag, .int .i64 x.E.Kind, .int .i64 x.E.Num, .str x.E.Name, .sl (List.map z2u x.E.Kids), .int .i64 x.C.Op, .int .i64 x.C.L.Kind, .int .i64 x.C.L.Num, .str x.C.L.Name, .sl (List.map z2u x.C.L.Kids), .int .i64 x.C.R.Kind, .int .i64 x.C.R.Num, .str x.C.R.Name, .sl (List.map z2u x.C.R.Kids), .sl (List.map z0a x.Body), .sl (List.map z0a x.Else), .sl (List.map z6r x.Arms)] := by
 cases x; rw [z0a]; simp only [zfs, zby]; first | done | rfl
theorem zft (x : z05) : (z0a x).length = 19 := by rw [z7z]; rfl

def z48 (x : z4q) : List PV := [.str x.Name, .sl (List.map z1d x.Vars), .sl (List.map z0a x.Body)]
def z0o (x : z16) : List PV := [.sl (List.map z4u x.Chans), .sl (List.map z3m x.Rules), .sl (List.map z48 x.Procs)]
def z95 (x : z3z) : List PV := [.int .i64 x.Op, .int .i64 x.L.Kind, .int .i64 x.L.Num, .str x.L.Name, .sl (List.map z2u x.L.Kids), .int .i64 x.R.Kind, .int .i64 x.R.Num, .str x.R.Name, .sl (List.map z2u x.R.Kids)]
def za9 (x : (List z05)) : List PV := [.sl (List.map z0a x)]
def e_u8 (x : Int) : List PV := [.int .u8 x]
structure z18 where
 Chans : (List z24)
 Rules : (List z2c)
 Procs : (List z2d)
def z1l (x : z0b) : List PV := [.int .i64 x.Kind, .str x.Text, .int .i64 x.Num, .int .i64 x.At]
structure z00 where
 f_l : (List z0b)
 f_end : Int
 f_e : Int
 f_at : Int
 f_deep : Int
 f_in : Int
def z01 (x : z00) : List PV := [.sl (List.map z1l x.f_l), .int .i64 x.f_end, .int .i64 x.f_e, .int .i64 x.f_at, .int .i64 x.f_deep, .int .i64 x.f_in]
def z1s (x : z24) : List PV := [.str x.Name, .int .i64 x.Kind, .int .i64 x.Size, .str x.From, .str x.To, .sl (List.map z1d x.Tags)]
def z3r (x : z35) : List PV := [.int .i64 x.From, .str x.Tag, .int .i64 x.To]
def z2g (x : z2c) : List PV := [.str x.Chan, .sl (List.map z3r x.Moves)]
mutual
def z0t : z03 → List PV
 | .mk z_Kind z_Num z_Name z_Kids => [.int .i64 z_Kind, .int .i64 z_Num, .str z_Name, .sl (zch z_Kids)]
def zch : List z03 → List (List PV)
 | [] => []
 | x :: xs => z0t x :: zch xs
end
theorem zem : ∀ l, zch l = List.map z0t l
 | [] => rfl
 | x :: xs => by rw [zch, zem xs]; rfl
theorem z4i (x : z03) : z0t x = [.int .i64 x.Kind, .int .i64 x.Num, .str x.Name, .sl (List.map z0t x.Kids)] := by
 cases x; rw [z0t, zem]
theorem zko (x : z03) : (z0t x).length = 4 := by rw [z4i]; rfl
mutual
def z1q : z0n → List PV
 | .mk z_Tag z_Var z_Body => [.str z_Tag, .str z_Var, .sl (z7o z_Body)]
def zbz : List z0n → List (List PV)
 | [] => []
 | x :: xs => z1q x :: zbz xs
def z0u : z02 → List PV
 | .mk z_Kind z_Name z_Tag z_E z_C z_Body z_Else z_Arms => [.int .i64 z_Kind, .str z_Name, .str z_Tag, .int .i64 z_E.Kind, .int .i64 z_E.Num, .str z_E.Name, .sl (List.map z0t z_E.Kids), .int .i64 z_C.Op, .int .i64 z_C.L.Kind, .int .i64 z_C.L.Num, .str z_C.L.Name, .sl (List.map z0t z_C.L.Kids), .int .i64 z_C.R.Kind, .int .i64 z_C.R.Num, .str z_C.R.Name, .sl (List.map z0t z_C.R.Kids), .sl (z7o z_Body), .sl (z7o z_Else), .sl (zbz z_Arms)]
def z7o : List z02 → List (List PV)
 | [] => []
 | x :: xs => z0u x :: z7o xs
end
theorem zfu : ∀ l, zbz l = List.map z1q l
 | [] => by rw [zbz]; rfl
 | x :: xs => by rw [zbz, zfu xs]; rfl
theorem zc0 : ∀ l, z7o l = List.map z0u l
 | [] => by rw [z7o]; rfl
 | x :: xs => by rw [z7o, zc0 xs]; rfl
theorem z96 (x : z0n) : z1q x = [.str x.Tag, .str x.Var, .sl (List.map z0u x.Body)] := by
 cases x; rw [z1q]; simp only [zc0]; first | done | rfl
theorem zdo (x : z0n) : (z1q x).length = 3 := by rw [z96]; rfl
theorem z3a (x : z02) : z0u x = [.int .i64 x.Kind, .str x.Name, .str x.Tag, .int .i64 x.E.Kind, .int .i64 x.E.Num, .str x.E.Name, .sl (List.map z0t x.E.Kids), .int .i64 x.C.Op, .int .i64 x.C.L.Kind, .int .i64 x.C.L.Num, .str x.C.L.Name, .sl (List.map z0t x.C.L.Kids), .int .i64 x.C.R.Kind, .int .i64 x.C.R.Num, .str x.C.R.Name, .sl (List.map z0t x.C.R.Kids), .sl (List.map z0u x.Body), .sl (List.map z0u x.Else), .sl (List.map z1q x.Arms)] := by
 cases x; rw [z0u]; simp only [zfu, zc0]; first | done | rfl
theorem zfv (x : z02) : (z0u x).length = 19 := by rw [z3a]; rfl

def zbo (x : z2n) : List PV := [.int .i64 x.Op, .int .i64 x.L.Kind, .int .i64 x.L.Num, .str x.L.Name, .sl (List.map z0t x.L.Kids), .int .i64 x.R.Kind, .int .i64 x.R.Num, .str x.R.Name, .sl (List.map z0t x.R.Kids)]
def z0m (x : z2d) : List PV := [.str x.Name, .sl (List.map z1d x.Vars), .sl (List.map z0u x.Body)]
def z97 (x : z18) : List PV := [.sl (List.map z1s x.Chans), .sl (List.map z2g x.Rules), .sl (List.map z0m x.Procs)]

def z7b (x : z05) : List PV := [.int .i64 x.Kind, .str x.Name, .str x.Tag, .int .i64 x.E.Kind, .int .i64 x.E.Num, .str x.E.Name, .sl (List.map z2u x.E.Kids), .int .i64 x.C.Op, .int .i64 x.C.L.Kind, .int .i64 x.C.L.Num, .str x.C.L.Name, .sl (List.map z2u x.C.L.Kids), .int .i64 x.C.R.Kind, .int .i64 x.C.R.Num, .str x.C.R.Name, .sl (List.map z2u x.C.R.Kids), .sl (List.map z0a x.Body), .sl (List.map z0a x.Else), .sl (List.map z6r x.Arms)]
def z11 (x : z09) : List PV := [.int .i64 x.Kind, .int .i64 x.Num, .str x.Name, .sl (List.map z2u x.Kids)]
def z6s (x : z2h) : List PV := [.str x.Tag, .str x.Var, .sl (List.map z0a x.Body)]
def z2j (x : z03) : List PV := [.int .i64 x.Kind, .int .i64 x.Num, .str x.Name, .sl (List.map z0t x.Kids)]
def z1t (x : z02) : List PV := [.int .i64 x.Kind, .str x.Name, .str x.Tag, .int .i64 x.E.Kind, .int .i64 x.E.Num, .str x.E.Name, .sl (List.map z0t x.E.Kids), .int .i64 x.C.Op, .int .i64 x.C.L.Kind, .int .i64 x.C.L.Num, .str x.C.L.Name, .sl (List.map z0t x.C.L.Kids), .int .i64 x.C.R.Kind, .int .i64 x.C.R.Num, .str x.C.R.Name, .sl (List.map z0t x.C.R.Kids), .sl (List.map z0u x.Body), .sl (List.map z0u x.Else), .sl (List.map z1q x.Arms)]
def z57 (x : z0n) : List PV := [.str x.Tag, .str x.Var, .sl (List.map z0u x.Body)]
noncomputable def z98 (a0 : Int) : Option Bool :=
 if (decide (a0 ≥ 97)) then (some (decide (a0 ≤ 122)))
 else (some false)

def z4x (r : Bool) : List XV := [xB r]

def zo3 (r : Bool) : z0l := []

noncomputable def za2 (a0 : Int) : Option Bool :=
 if (decide (a0 ≥ 48)) then (some (decide (a0 ≤ 57)))
 else (some false)

def z6v (r : Bool) : List XV := [xB r]

def zpw (r : Bool) : z0l := []

noncomputable def zjv : Option (List ByteArray) :=
 some [(ByteArray.mk #[99, 104, 97, 110]), (ByteArray.mk #[98, 108, 111, 99, 107]), (ByteArray.mk #[100, 114, 111, 112]), (ByteArray.mk #[108, 111, 115, 115, 121]), (ByteArray.mk #[102, 114, 111, 109]), (ByteArray.mk #[116, 111]), (ByteArray.mk #[114, 117, 108, 101]), (ByteArray.mk #[112, 114, 111, 99]), (ByteArray.mk #[118, 97, 114]), (ByteArray.mk #[105, 102]), (ByteArray.mk #[101, 108, 115, 101]), (ByteArray.mk #[119, 104, 105, 108, 101]), (ByteArray.mk #[115, 101, 110, 100]), (ByteArray.mk #[114, 101, 99, 118]), (ByteArray.mk #[97, 115, 115, 101, 114, 116]), (ByteArray.mk #[105, 110, 112, 117, 116])]

def zgc (r : (List ByteArray)) : List XV := [xL (List.map z1d r)]

def zpx (r : (List ByteArray)) : z0l := []

noncomputable def z5z (a0 : ByteArray) (v1 : (List ByteArray)) (x1 : Int) : Option (Sum Int (Sum Bool Unit)) :=
 if (decide (x1 < (v1.length : Int))) then (idx v1 x1 >>= fun v2 =>
 if (v2.toList == a0.toList) then (some (.inr (.inl true)))
 else (some (.inl (IntKind.i64.wrap (x1 + 1)))))
 else (some (.inr (.inr ())))

noncomputable def zaw (a0 : ByteArray) : Option Bool :=
 zjv >>= fun v1 =>
 iter (z5z a0 v1) 0 >>= Sum.elim (fun r => some r) (fun j1 =>
 some false)

def zar (r : Bool) : List XV := [xB r]

def zfw (r : Bool) : z0l := []

noncomputable def zkp (r : Bool) : Tg := .r false Tryz.f64.results.toList 0 (zar r) (zfw r)

noncomputable def zaf (a0 : ByteArray) (a1 : Int) (x1 : Int) : Option (Sum Int (Sum Int Unit)) :=
 if (decide (x1 < 4)) then (((if (decide ((IntKind.i64.wrap (a1 + 2)) ≤ (a0.size : Int))) then (ssub a0 a1 (IntKind.i64.wrap (a1 + 2)) >>= fun v1 =>
 idx [(ByteArray.mk #[61, 61]), (ByteArray.mk #[33, 61]), (ByteArray.mk #[60, 61]), (ByteArray.mk #[62, 61])] x1 >>= fun v2 =>
 some (v1.toList == v2.toList))
 else (some false) : Option Bool) >>= fun j2 =>
 if j2 then (some (.inr (.inl 2)))
 else (some (.inl (IntKind.i64.wrap (x1 + 1))))))
 else (some (.inr (.inr ())))

noncomputable def zag (a0 : ByteArray) (a1 : Int) (x3 : Int) : Option (Sum Int (Sum Int Unit)) :=
 if (decide (x3 < ((ByteArray.mk #[123, 125, 40, 41, 59, 44, 46, 61, 60, 62, 43, 45, 42, 47, 37]).size : Int))) then (bidx (ByteArray.mk #[123, 125, 40, 41, 59, 44, 46, 61, 60, 62, 43, 45, 42, 47, 37]) x3 >>= fun v3 =>
 bidx a0 a1 >>= fun v4 =>
 if (v3 == v4) then (some (.inr (.inl 1)))
 else (some (.inl (IntKind.i64.wrap (x3 + 1)))))
 else (some (.inr (.inr ())))

noncomputable def zh8 (a0 : ByteArray) (a1 : Int) : Option Int :=
 iter (zaf a0 a1) 0 >>= Sum.elim (fun r => some r) (fun j1 =>
 iter (zag a0 a1) 0 >>= Sum.elim (fun r => some r) (fun j3 =>
 some 0))

def zfe (r : Int) : List XV := [xI r]

def zlh (r : Int) : z0l := []

noncomputable def zli (r : Int) : Tg := .r false Tryz.f65.results.toList 0 (zfe r) (zlh r)

noncomputable def z81 (a0 : ByteArray) (v1 : Int) (x3 : Int) : Option (Sum Int (Sum ((List z39) × Int × Int) Int)) :=
 ((if (decide (x3 < (a0.size : Int))) then (z98 v1 >>= fun v2 =>
 if v2 then (bidx a0 x3 >>= fun v3 =>
 z98 v3 >>= fun v4 =>
 if v4 then (some true)
 else (bidx a0 x3 >>= fun v5 =>
 za2 v5 >>= fun v6 =>
 some v6))
 else (za2 v1 >>= fun v7 =>
 if v7 then (bidx a0 x3 >>= fun v8 =>
 z98 v8 >>= fun v9 =>
 if v9 then (some true)
 else (bidx a0 x3 >>= fun v10 =>
 za2 v10 >>= fun v11 =>
 some v11))
 else (some false)))
 else (some false) : Option Bool) >>= fun j4 =>
 if j4 then (some (.inl (IntKind.i64.wrap (x3 + 1))))
 else (some (.inr (.inr x3))))

noncomputable def z99 (v16 : ByteArray) (x1 : (Int × (List z39))) (x7 : (Int × Int)) : Option (Sum (Int × Int) (Sum ((List z39) × Int × Int) Int)) :=
 if (decide (x7.1 < (v16.size : Int))) then (bidx v16 x7.1 >>= fun v17 =>
 za2 v17 >>= fun v18 =>
 if (!v18) then (some (.inr (.inl ([], x1.1, 3))))
 else (bidx v16 x7.1 >>= fun v19 =>
 some (.inl ((IntKind.i64.wrap (x7.1 + 1)), (IntKind.i64.wrap ((IntKind.i64.wrap (10 * x7.2)) + (IntKind.i64.wrap (IntKind.u8.wrap (v19 - 48)))))))))
 else (some (.inr (.inr x7.2)))

noncomputable def z7c (a0 : ByteArray) (x1 : (Int × (List z39))) : Option (Sum (Int × (List z39)) (Sum ((List z39) × Int × Int) (List z39))) :=
 if (decide (x1.1 < (a0.size : Int))) then (bidx a0 x1.1 >>= fun v1 =>
 ((if (v1 == 32) then (some true)
 else (some (v1 == 10)) : Option Bool) >>= fun j2 =>
 if j2 then (some (.inl ((IntKind.i64.wrap (x1.1 + 1)), x1.2)))
 else (iter (z81 a0 v1) x1.1 >>= Sum.elim (fun _ => none) (fun j3 =>
 ((z98 v1 >>= fun v12 =>
 if v12 then (ssub a0 x1.1 j3 >>= fun v13 =>
 zaw v13 >>= fun v14 =>
 if v14 then (if (decide ((v13.size : Int) > 12)) then (some (.inl ([], x1.1, 3)))
 else (some (.inr (j3, 4, v13, 0))))
 else (if (decide ((v13.size : Int) > 12)) then (some (.inl ([], x1.1, 3)))
 else (some (.inr (j3, 1, v13, 0)))))
 else (za2 v1 >>= fun v15 =>
 if v15 then (ssub a0 x1.1 j3 >>= fun v16 =>
 ((if (decide ((v16.size : Int) > 10)) then (some true)
 else (if (decide ((v16.size : Int) > 1)) then (some (v1 == 48))
 else (some false)) : Option Bool) >>= fun j6 =>
 if j6 then (some (.inl ([], x1.1, 3)))
 else (iter (z99 v16 x1) (0, 0) >>= Sum.elim (fun r => some (.inl r)) (fun j7 =>
 if (decide (j7 > 2147483647)) then (some (.inl ([], x1.1, 3)))
 else (some (.inr (j3, 2, v16, j7)))))))
 else (zh8 a0 x1.1 >>= fun v20 =>
 if (v20 == 0) then (some (.inl ([], x1.1, 2)))
 else (ssub a0 x1.1 (IntKind.i64.wrap (x1.1 + v20)) >>= fun v21 =>
 some (.inr ((IntKind.i64.wrap (x1.1 + v20)), 3, v21, 0))))) : Option (Sum ((List z39) × Int × Int) (Int × Int × ByteArray × Int))) >>= Sum.elim (fun r => some (.inr (.inl r))) (fun j5 =>
 app 40 x1.2 [(z39.mk j5.2.1 j5.2.2.1 j5.2.2.2 x1.1)] >>= fun v22 =>
 some (.inl (j5.1, v22))))))))
 else (some (.inr (.inr x1.2)))

noncomputable def zjw (a0 : ByteArray) : Option ((List z39) × Int × Int) :=
 iter (z7c a0) (0, []) >>= Sum.elim (fun r => some r) (fun j1 =>
 if (decide ((j1.length : Int) > 2000)) then (some ([], (a0.size : Int), 4))
 else (some (j1, 0, 0)))

def zh9 (r : ((List z39) × Int × Int)) : List XV := [xL (List.map z2i r.1), xI r.2.1, xI r.2.2]

def zo4 (r : ((List z39) × Int × Int)) : z0l := []

noncomputable def zha (r : ((List z39) × Int × Int)) : Tg := .r false Tryz.f25.results.toList 0 (zh9 r) (zo4 r)

noncomputable def z5c (a0 : ByteArray) : Option Bool :=
 zjw a0 >>= fun v1 =>
 if (v1.2.2 == 0) then (if ((v1.1.length : Int) == 1) then (idx v1.1 0 >>= fun v2 =>
 if (v2.Kind == 1) then (idx v1.1 0 >>= fun v3 =>
 some (v3.Text.toList == a0.toList))
 else (some false))
 else (some false))
 else (some false)

def z1c (r : Bool) : List XV := [xB r]

def zty (r : Bool) : z0l := []

noncomputable def z9a (a0 : Int) : Option Bool :=
 if (decide (a0 ≥ 0)) then (some (decide (a0 ≤ 2147483647)))
 else (some false)

def z58 (r : Bool) : List XV := [xB r]

def zo5 (r : Bool) : z0l := []

noncomputable def zdp (a0 : Int) : Option Bool :=
 if (decide (a0 ≥ 4)) then (some (decide (a0 ≤ 8)))
 else (some false)

def zc1 (r : Bool) : List XV := [xB r]

def zwc (r : Bool) : z0l := []

def z5d (r : Bool) : List XV := [xB r]

def ztz (r : Bool) : z0l := []

noncomputable def z4r : Nat → z09 → Option Bool
  | 0, _ => none
  | n + 1, a0 => if (a0.Kind == 1) then (((z9a a0.Num >>= fun v1 =>
 if v1 then (some ((a0.Kids.length : Int) == 0))
 else (some false) : Option Bool) >>= fun j1 =>
 some j1))
 else (if (a0.Kind == 2) then (((z5c a0.Name >>= fun v2 =>
 if v2 then (some ((a0.Kids.length : Int) == 0))
 else (some false) : Option Bool) >>= fun j2 =>
 some j2))
 else (if (a0.Kind == 3) then (((if ((a0.Kids.length : Int) == 1) then (idx a0.Kids 0 >>= fun v3 =>
 (z4r n) v3 >>= fun v4 =>
 some v4)
 else (some false) : Option Bool) >>= fun j3 =>
 some j3))
 else (zdp a0.Kind >>= fun v5 =>
 if v5 then (((if ((a0.Kids.length : Int) == 2) then (idx a0.Kids 0 >>= fun v6 =>
 (z4r n) v6 >>= fun v7 =>
 if v7 then (idx a0.Kids 1 >>= fun v8 =>
 (z4r n) v8 >>= fun v9 =>
 some v9)
 else (some false))
 else (some false) : Option Bool) >>= fun j4 =>
 some j4))
 else (some false))))

noncomputable def zff (a0 : z09) : Option Bool := unf fun n => z4r n a0

noncomputable def zdq (a0 : z3z) : Option Bool :=
 if (decide (a0.Op ≥ 1)) then (if (decide (a0.Op ≤ 6)) then (zff a0.L >>= fun v1 =>
 if v1 then (zff a0.R >>= fun v2 =>
 some v2)
 else (some false))
 else (some false))
 else (some false)

def z9b (r : Bool) : List XV := [xB r]

def zu0 (r : Bool) : z0l := []

noncomputable def z7p (F_r02_stmts : (List z05) → Option Bool) (v1 : z05) (x4 : (Bool × Int)) : Option (Sum (Bool × Int) (Sum Bool Bool)) :=
 if (decide (x4.2 < (v1.Arms.length : Int))) then (((if x4.1 then (idx v1.Arms x4.2 >>= fun v13 =>
 z5c v13.Tag >>= fun v14 =>
 if v14 then (idx v1.Arms x4.2 >>= fun v15 =>
 z5c v15.Var >>= fun v16 =>
 if v16 then (idx v1.Arms x4.2 >>= fun v17 =>
 F_r02_stmts v17.Body >>= fun v18 =>
 some v18)
 else (some false))
 else (some false))
 else (some false) : Option Bool) >>= fun j5 =>
 some (.inl (j5, (IntKind.i64.wrap (x4.2 + 1))))))
 else (some (.inr (.inr x4.1)))

noncomputable def z9c (F_r02_stmts : (List z05) → Option Bool) (a0 : (List z05)) (x1 : Int) : Option (Sum Int (Sum Bool Unit)) :=
 if (decide (x1 < (a0.length : Int))) then (((idx a0 x1 >>= fun v1 =>
 if (v1.Kind == 1) then (z5c v1.Name >>= fun v2 =>
 if v2 then (zff v1.E >>= fun v3 =>
 if (!v3) then (some (.inl false))
 else (some (.inr ())))
 else (some (.inl false)))
 else (if (v1.Kind == 2) then (zdq v1.C >>= fun v4 =>
 if v4 then (F_r02_stmts v1.Body >>= fun v5 =>
 if v5 then (F_r02_stmts v1.Else >>= fun v6 =>
 if (!v6) then (some (.inl false))
 else (some (.inr ())))
 else (some (.inl false)))
 else (some (.inl false)))
 else (if (v1.Kind == 3) then (zdq v1.C >>= fun v7 =>
 if v7 then (F_r02_stmts v1.Body >>= fun v8 =>
 if (!v8) then (some (.inl false))
 else (some (.inr ())))
 else (some (.inl false)))
 else (if (v1.Kind == 4) then (z5c v1.Name >>= fun v9 =>
 if v9 then (z5c v1.Tag >>= fun v10 =>
 if v10 then (zff v1.E >>= fun v11 =>
 if (!v11) then (some (.inl false))
 else (some (.inr ())))
 else (some (.inl false)))
 else (some (.inl false)))
 else (if (v1.Kind == 5) then (((z5c v1.Name >>= fun v12 =>
 if v12 then (some (decide ((v1.Arms.length : Int) > 0)))
 else (some false) : Option Bool) >>= fun j3 =>
 iter (z7p F_r02_stmts v1) (j3, 0) >>= Sum.elim (fun _ => none) (fun j4 =>
 if (!j4) then (some (.inl false))
 else (some (.inr ())))))
 else (if (v1.Kind == 6) then (zdq v1.C >>= fun v19 =>
 if (!v19) then (some (.inl false))
 else (some (.inr ())))
 else (if (v1.Kind == 7) then (z5c v1.Name >>= fun v20 =>
 if (!v20) then (some (.inl false))
 else (some (.inr ())))
 else (some (.inl false)))))))) : Option (Sum Bool Unit)) >>= Sum.elim (fun r => some (.inr (.inl r))) (fun j2 =>
 some (.inl (IntKind.i64.wrap (x1 + 1))))))
 else (some (.inr (.inr ())))

def z5i (r : Bool) : List XV := [xB r]

def zjx (r : Bool) : z0l := []

noncomputable def zgd (r : Bool) : Tg := .r false Tryz.f77.results.toList 0 (z5i r) (zjx r)

noncomputable def z67 : Nat → (List z05) → Option Bool
  | 0, _ => none
  | n + 1, a0 => iter (z9c (z67 n) a0) 0 >>= Sum.elim (fun r => some r) (fun j1 =>
 some true)

noncomputable def zjy (a0 : (List z05)) : Option Bool := unf fun n => z67 n a0

noncomputable def z9d (v1 : z5b) (x3 : Int) : Option (Sum Int (Sum Bool Unit)) :=
 if (decide (x3 < (v1.Tags.length : Int))) then (idx v1.Tags x3 >>= fun v6 =>
 z5c v6 >>= fun v7 =>
 if (!v7) then (some (.inr (.inl false)))
 else (some (.inl (IntKind.i64.wrap (x3 + 1)))))
 else (some (.inr (.inr ())))

noncomputable def z9e (a0 : z16) (x1 : Int) : Option (Sum Int (Sum Bool Unit)) :=
 if (decide (x1 < (a0.Chans.length : Int))) then (idx a0.Chans x1 >>= fun v1 =>
 ((z5c v1.Name >>= fun v2 =>
 if (!v2) then (some true)
 else (z5c v1.From >>= fun v3 =>
 if (!v3) then (some true)
 else (z5c v1.To >>= fun v4 =>
 if (!v4) then (some true)
 else (if (decide (v1.Kind < 0)) then (some true)
 else (if (decide (v1.Kind > 2)) then (some true)
 else (z9a v1.Size >>= fun v5 =>
 if (!v5) then (some true)
 else (some ((v1.Tags.length : Int) == 0))))))) : Option Bool) >>= fun j2 =>
 if j2 then (some (.inr (.inl false)))
 else (iter (z9d v1) 0 >>= Sum.elim (fun r => some (.inr (.inl r))) (fun j3 =>
 some (.inl (IntKind.i64.wrap (x1 + 1)))))))
 else (some (.inr (.inr ())))

noncomputable def z9f (a0 : z16) (x4 : Int) (x5 : Int) : Option (Sum Int (Sum Bool Unit)) :=
 idx a0.Rules x4 >>= fun v10 =>
 if (decide (x5 < (v10.Moves.length : Int))) then (idx a0.Rules x4 >>= fun v11 =>
 idx v11.Moves x5 >>= fun v12 =>
 ((z9a v12.From >>= fun v13 =>
 if (!v13) then (some true)
 else (z9a v12.To >>= fun v14 =>
 if (!v14) then (some true)
 else (z5c v12.Tag >>= fun v15 =>
 some (!v15))) : Option Bool) >>= fun j6 =>
 if j6 then (some (.inr (.inl false)))
 else (some (.inl (IntKind.i64.wrap (x5 + 1))))))
 else (some (.inr (.inr ())))

noncomputable def z9g (a0 : z16) (x4 : Int) : Option (Sum Int (Sum Bool Unit)) :=
 if (decide (x4 < (a0.Rules.length : Int))) then (idx a0.Rules x4 >>= fun v8 =>
 z5c v8.Chan >>= fun v9 =>
 if (!v9) then (some (.inr (.inl false)))
 else (iter (z9f a0 x4) 0 >>= Sum.elim (fun r => some (.inr (.inl r))) (fun j5 =>
 some (.inl (IntKind.i64.wrap (x4 + 1))))))
 else (some (.inr (.inr ())))

noncomputable def z9h (v16 : z4q) (x9 : Int) : Option (Sum Int (Sum Bool Unit)) :=
 if (decide (x9 < (v16.Vars.length : Int))) then (idx v16.Vars x9 >>= fun v19 =>
 z5c v19 >>= fun v20 =>
 if (!v20) then (some (.inr (.inl false)))
 else (some (.inl (IntKind.i64.wrap (x9 + 1)))))
 else (some (.inr (.inr ())))

noncomputable def z9i (a0 : z16) (x7 : Int) : Option (Sum Int (Sum Bool Unit)) :=
 if (decide (x7 < (a0.Procs.length : Int))) then (idx a0.Procs x7 >>= fun v16 =>
 ((z5c v16.Name >>= fun v17 =>
 if (!v17) then (some true)
 else (zjy v16.Body >>= fun v18 =>
 some (!v18)) : Option Bool) >>= fun j8 =>
 if j8 then (some (.inr (.inl false)))
 else (iter (z9h v16) 0 >>= Sum.elim (fun r => some (.inr (.inl r))) (fun j9 =>
 some (.inl (IntKind.i64.wrap (x7 + 1)))))))
 else (some (.inr (.inr ())))

noncomputable def zen (a0 : z16) : Option Bool :=
 iter (z9e a0) 0 >>= Sum.elim (fun r => some r) (fun j1 =>
 iter (z9g a0) 0 >>= Sum.elim (fun r => some r) (fun j4 =>
 iter (z9i a0) 0 >>= Sum.elim (fun r => some r) (fun j7 =>
 some true)))

def zdr (r : Bool) : List XV := [xB r]

def zjz (r : Bool) : z0l := []

noncomputable def zah (r : Bool) : Tg := .r false Tryz.f44.results.toList 0 (zdr r) (zjz r)

noncomputable def zfg (a0 : z09) (a1 : z09) : Option Bool :=
 if (decide (a0.Kind ≥ 6)) then (if (a1.Kind == 4) then (some true)
 else (some (a1.Kind == 5)))
 else (some false)

def zfh (r : Bool) : List XV := [xB r]

def zu1 (r : Bool) : z0l := []

noncomputable def zc2 (a0 : z09) (a1 : z09) : Option Bool :=
 if (decide (a0.Kind ≥ 6)) then (zdp a1.Kind >>= fun v1 =>
 some v1)
 else (if (a1.Kind == 4) then (some true)
 else (some (a1.Kind == 5)))

def zc3 (r : Bool) : List XV := [xB r]

def zpy (r : Bool) : z0l := []

def z4l (r : Int) : List XV := [xI r]

def zu2 (r : Int) : z0l := []

noncomputable def z6c : Nat → z09 → Option Int
  | 0, _ => none
  | n + 1, a0 => ((if (a0.Kind == 3) then (idx a0.Kids 0 >>= fun v1 =>
 zdp v1.Kind >>= fun v2 =>
 some v2)
 else (some false) : Option Bool) >>= fun j1 =>
 if j1 then (idx a0.Kids 0 >>= fun v3 =>
 (z6c n) v3 >>= fun v4 =>
 some (IntKind.i64.wrap (2 + v4)))
 else (if (a0.Kind == 3) then (idx a0.Kids 0 >>= fun v5 =>
 (z6c n) v5 >>= fun v6 =>
 some (IntKind.i64.wrap (1 + v6)))
 else (zdp a0.Kind >>= fun v7 =>
 if v7 then (idx a0.Kids 0 >>= fun v8 =>
 (z6c n) v8 >>= fun v9 =>
 idx a0.Kids 1 >>= fun v10 =>
 (z6c n) v10 >>= fun v11 =>
 zfg a0 v8 >>= fun v12 =>
 if v12 then (zc2 a0 v10 >>= fun v13 =>
 if v13 then (some (max (IntKind.i64.wrap (v9 + 1)) (IntKind.i64.wrap (v11 + 1))))
 else (some (max (IntKind.i64.wrap (v9 + 1)) v11)))
 else (zc2 a0 v10 >>= fun v14 =>
 if v14 then (some (max v9 (IntKind.i64.wrap (v11 + 1))))
 else (some (max v9 v11))))
 else (some 0))))

noncomputable def zas (a0 : z09) : Option Int := unf fun n => z6c n a0

noncomputable def zbg (F_r02_blocks : (List z05) → Option (Int × Int)) (x3 : Unit) : Option (Sum Unit (Sum (Int × Int) Unit)) :=
 if (decide ((0 : Int) < 0)) then (none)
 else (some (.inr (.inr ())))

noncomputable def zbh (F_r02_blocks : (List z05) → Option (Int × Int)) (x4 : Unit) : Option (Sum Unit (Sum (Int × Int) Unit)) :=
 if (decide ((0 : Int) < 0)) then (none)
 else (some (.inr (.inr ())))

noncomputable def zbi (F_r02_blocks : (List z05) → Option (Int × Int)) (v4 : (List (List z05))) (x5 : (Int × Int × Int)) : Option (Sum (Int × Int × Int) (Sum (Int × Int) (Int × Int))) :=
 if (decide (x5.2.2 < (v4.length : Int))) then (idx v4 x5.2.2 >>= fun v7 =>
 F_r02_blocks v7 >>= fun v8 =>
 some (.inl ((max x5.1 (IntKind.i64.wrap (v8.1 + 1))), (max x5.2.1 v8.2), (IntKind.i64.wrap (x5.2.2 + 1)))))
 else (some (.inr (.inr (x5.1, x5.2.1))))

noncomputable def zbj (F_r02_blocks : (List z05) → Option (Int × Int)) (v9 : (List (List z05))) (x6 : (Int × Int × Int)) : Option (Sum (Int × Int × Int) (Sum (Int × Int) (Int × Int))) :=
 if (decide (x6.2.2 < (v9.length : Int))) then (idx v9 x6.2.2 >>= fun v12 =>
 F_r02_blocks v12 >>= fun v13 =>
 some (.inl ((max x6.1 (IntKind.i64.wrap (v13.1 + 1))), (max x6.2.1 v13.2), (IntKind.i64.wrap (x6.2.2 + 1)))))
 else (some (.inr (.inr (x6.1, x6.2.1))))

noncomputable def z6w (F_r02_blocks : (List z05) → Option (Int × Int)) (v1 : z05) (x7 : (Int × (List (List z05)))) : Option (Sum (Int × (List (List z05))) (Sum (Int × Int) (List (List z05)))) :=
 if (decide (x7.1 < (v1.Arms.length : Int))) then (idx v1.Arms x7.1 >>= fun v14 =>
 app 24 x7.2 [v14.Body] >>= fun v15 =>
 some (.inl ((IntKind.i64.wrap (x7.1 + 1)), v15)))
 else (some (.inr (.inr x7.2)))

noncomputable def zbk (F_r02_blocks : (List z05) → Option (Int × Int)) (j7 : (List (List z05))) (x8 : (Int × Int × Int)) : Option (Sum (Int × Int × Int) (Sum (Int × Int) (Int × Int))) :=
 if (decide (x8.2.2 < (j7.length : Int))) then (idx j7 x8.2.2 >>= fun v16 =>
 F_r02_blocks v16 >>= fun v17 =>
 some (.inl ((max x8.1 (IntKind.i64.wrap (v17.1 + 1))), (max x8.2.1 v17.2), (IntKind.i64.wrap (x8.2.2 + 1)))))
 else (some (.inr (.inr (x8.1, x8.2.1))))

noncomputable def zbl (F_r02_blocks : (List z05) → Option (Int × Int)) (x9 : Unit) : Option (Sum Unit (Sum (Int × Int) Unit)) :=
 if (decide ((0 : Int) < 0)) then (none)
 else (some (.inr (.inr ())))

noncomputable def zat (F_r02_blocks : (List z05) → Option (Int × Int)) (x10 : Unit) : Option (Sum Unit (Sum (Int × Int) Unit)) :=
 if (decide ((0 : Int) < 0)) then (none)
 else (some (.inr (.inr ())))

noncomputable def z6x (F_r02_blocks : (List z05) → Option (Int × Int)) (a0 : (List z05)) (x1 : (Int × Int × Int)) : Option (Sum (Int × Int × Int) (Sum (Int × Int) (Int × Int))) :=
 if (decide (x1.2.2 < (a0.length : Int))) then (((idx a0 x1.2.2 >>= fun v1 =>
 if (v1.Kind == 1) then (zas v1.E >>= fun v2 =>
 iter (zbg F_r02_blocks) () >>= Sum.elim (fun _ => none) (fun j3 =>
 some (x1.1, (max x1.2.1 v2))))
 else (if (v1.Kind == 4) then (zas v1.E >>= fun v3 =>
 iter (zbh F_r02_blocks) () >>= Sum.elim (fun _ => none) (fun j4 =>
 some (x1.1, (max x1.2.1 v3))))
 else (if (v1.Kind == 2) then (app 24 [] [v1.Body, v1.Else] >>= fun v4 =>
 zas v1.C.L >>= fun v5 =>
 zas v1.C.R >>= fun v6 =>
 iter (zbi F_r02_blocks v4) ((max x1.1 1), (max (max x1.2.1 v5) v6), 0) >>= Sum.elim (fun _ => none) (fun j5 =>
 some (j5.1, j5.2)))
 else (if (v1.Kind == 3) then (app 24 [] [v1.Body] >>= fun v9 =>
 zas v1.C.L >>= fun v10 =>
 zas v1.C.R >>= fun v11 =>
 iter (zbj F_r02_blocks v9) ((max x1.1 1), (max (max x1.2.1 v10) v11), 0) >>= Sum.elim (fun _ => none) (fun j6 =>
 some (j6.1, j6.2)))
 else (if (v1.Kind == 5) then (iter (z6w F_r02_blocks v1) (0, []) >>= Sum.elim (fun _ => none) (fun j7 =>
 iter (zbk F_r02_blocks j7) ((max x1.1 1), x1.2.1, 0) >>= Sum.elim (fun _ => none) (fun j8 =>
 some (j8.1, j8.2))))
 else (if (v1.Kind == 6) then (zas v1.C.L >>= fun v18 =>
 zas v1.C.R >>= fun v19 =>
 iter (zbl F_r02_blocks) () >>= Sum.elim (fun _ => none) (fun j9 =>
 some (x1.1, (max (max x1.2.1 v18) v19))))
 else (iter (zat F_r02_blocks) () >>= Sum.elim (fun _ => none) (fun j10 =>
 some (x1.1, x1.2.1)))))))) : Option (Int × Int)) >>= fun j2 =>
 some (.inl (j2.1, j2.2, (IntKind.i64.wrap (x1.2.2 + 1))))))
 else (some (.inr (.inr (x1.1, x1.2.1))))

def z5r (r : (Int × Int)) : List XV := [xI r.1, xI r.2]

def zim (r : (Int × Int)) : z0l := []

noncomputable def z6d (r : (Int × Int)) : Tg := .r false Tryz.f45.results.toList 0 (z5r r) (zim r)

noncomputable def z26 : Nat → (List z05) → Option (Int × Int)
  | 0, _ => none
  | n + 1, a0 => iter (z6x (z26 n) a0) (0, 0, 0) >>= Sum.elim (fun _ => none) (fun j1 =>
 some (j1.1, j1.2))

noncomputable def zi2 (a0 : (List z05)) : Option (Int × Int) := unf fun n => z26 n a0

noncomputable def z36 (F_r02_exprWords : z09 → Option (List ByteArray)) (F_r02_in : z09 → Bool → Option (List ByteArray)) (x1 : (ByteArray × Int)) : Option (Sum (ByteArray × Int) (Sum (List ByteArray) ByteArray)) :=
 ((if (decide (x1.2 > 0)) then (some true)
 else (some (x1.1.toList == (ByteArray.mk #[]).toList)) : Option Bool) >>= fun j2 =>
 if j2 then (rem x1.2 10 >>= fun v1 =>
 scat (strOfNums [(IntKind.u8.wrap (IntKind.i64.wrap (48 + v1)))]) x1.1 >>= fun v2 =>
 quo .i64 x1.2 10 >>= fun v3 =>
 some (.inl (v2, v3)))
 else (some (.inr (.inr x1.1))))

def z3s (r : (List ByteArray)) : List XV := [xR 0]

def z3t (r : (List ByteArray)) : z0l := [oR true 9 1 (List.map z1d r)]

noncomputable def zk0 (r : (List ByteArray)) : Tg := .r false Tryz.f79.results.toList 0 (z3s r) (z3t r)

def zds (r : (List ByteArray)) : List XV := [xR 0]

def zdt (r : (List ByteArray)) : z0l := [oR true 9 1 (List.map z1d r)]

mutual
noncomputable def z3f : Nat → z09 → Option (List ByteArray)
  | 0, _ => none
  | n + 1, a0 => if (a0.Kind == 1) then (iter (z36 (z3f n) (zai n)) ((ByteArray.mk #[]), a0.Num) >>= Sum.elim (fun _ => none) (fun j1 =>
 some [j1]))
 else (if (a0.Kind == 2) then (some [a0.Name])
 else (if (a0.Kind == 3) then (idx a0.Kids 0 >>= fun v4 =>
 zdp v4.Kind >>= fun v5 =>
 (zai n) v4 v5 >>= fun v6 =>
 app 16 [(ByteArray.mk #[45])] v6 >>= fun v7 =>
 some v7)
 else (idx a0.Kids 0 >>= fun v8 =>
 zfg a0 v8 >>= fun v9 =>
 (zai n) v8 v9 >>= fun v10 =>
 idx [(ByteArray.mk #[43]), (ByteArray.mk #[45]), (ByteArray.mk #[42]), (ByteArray.mk #[47]), (ByteArray.mk #[37])] (IntKind.i64.wrap (a0.Kind - 4)) >>= fun v11 =>
 app 16 v10 [v11] >>= fun v12 =>
 idx a0.Kids 1 >>= fun v13 =>
 zc2 a0 v13 >>= fun v14 =>
 (zai n) v13 v14 >>= fun v15 =>
 app 16 v12 v15 >>= fun v16 =>
 some v16)))
noncomputable def zai : Nat → z09 → Bool → Option (List ByteArray)
  | 0, _, _ => none
  | n + 1, a0, a1 => (z3f n) a0 >>= fun v1 =>
 if a1 then (app 16 [(ByteArray.mk #[40])] v1 >>= fun v2 =>
 app 16 v2 [(ByteArray.mk #[41])] >>= fun v3 =>
 some v3)
 else (some v1)
end

noncomputable def z6y (a0 : z09) : Option (List ByteArray) := unf fun n => z3f n a0

noncomputable def zaj (a0 : Int) : Option ByteArray :=
 z6y (z09.mk 1 a0 (ByteArray.mk #[]) []) >>= fun v1 =>
 idx v1 0 >>= fun v2 =>
 some v2

def zax (r : ByteArray) : List XV := [xS r]

def zo6 (r : ByteArray) : z0l := []

noncomputable def z6z (a0 : z3z) : Option (List ByteArray) :=
 z6y a0.L >>= fun v1 =>
 app 16 [(ByteArray.mk #[40])] v1 >>= fun v2 =>
 idx [(ByteArray.mk #[61, 61]), (ByteArray.mk #[33, 61]), (ByteArray.mk #[60]), (ByteArray.mk #[60, 61]), (ByteArray.mk #[62]), (ByteArray.mk #[62, 61])] (IntKind.i64.wrap (a0.Op - 1)) >>= fun v3 =>
 app 16 v2 [v3] >>= fun v4 =>
 z6y a0.R >>= fun v5 =>
 app 16 v4 v5 >>= fun v6 =>
 app 16 v6 [(ByteArray.mk #[41])] >>= fun v7 =>
 some v7

def z7q (r : (List ByteArray)) : List XV := [xL (List.map z1d r)]

def zk1 (r : (List ByteArray)) : z0l := []

noncomputable def z68 (F_r02_stmtWords : (List z05) → Option (List ByteArray)) (F_r02_block : (List z05) → Option (List ByteArray)) (v1 : z05) (x3 : (Int × (List ByteArray))) : Option (Sum (Int × (List ByteArray)) (Sum (List ByteArray) (List ByteArray))) :=
 if (decide (x3.1 < (v1.Arms.length : Int))) then (idx v1.Arms x3.1 >>= fun v24 =>
 app 16 x3.2 [v24.Tag, (ByteArray.mk #[40]), v24.Var, (ByteArray.mk #[41])] >>= fun v25 =>
 F_r02_block v24.Body >>= fun v26 =>
 app 16 v25 v26 >>= fun v27 =>
 some (.inl ((IntKind.i64.wrap (x3.1 + 1)), v27)))
 else (some (.inr (.inr x3.2)))

noncomputable def z69 (F_r02_stmtWords : (List z05) → Option (List ByteArray)) (F_r02_block : (List z05) → Option (List ByteArray)) (a0 : (List z05)) (x1 : (Int × (List ByteArray))) : Option (Sum (Int × (List ByteArray)) (Sum (List ByteArray) (List ByteArray))) :=
 if (decide (x1.1 < (a0.length : Int))) then (((idx a0 x1.1 >>= fun v1 =>
 if (v1.Kind == 1) then (app 16 x1.2 [v1.Name, (ByteArray.mk #[61])] >>= fun v2 =>
 z6y v1.E >>= fun v3 =>
 app 16 v2 v3 >>= fun v4 =>
 app 16 v4 [(ByteArray.mk #[59])] >>= fun v5 =>
 some v5)
 else (if (v1.Kind == 2) then (app 16 x1.2 [(ByteArray.mk #[105, 102])] >>= fun v6 =>
 z6z v1.C >>= fun v7 =>
 app 16 v6 v7 >>= fun v8 =>
 F_r02_block v1.Body >>= fun v9 =>
 app 16 v8 v9 >>= fun v10 =>
 if (decide ((v1.Else.length : Int) > 0)) then (app 16 v10 [(ByteArray.mk #[101, 108, 115, 101])] >>= fun v11 =>
 F_r02_block v1.Else >>= fun v12 =>
 app 16 v11 v12 >>= fun v13 =>
 some v13)
 else (some v10))
 else (if (v1.Kind == 3) then (app 16 x1.2 [(ByteArray.mk #[119, 104, 105, 108, 101])] >>= fun v14 =>
 z6z v1.C >>= fun v15 =>
 app 16 v14 v15 >>= fun v16 =>
 F_r02_block v1.Body >>= fun v17 =>
 app 16 v16 v17 >>= fun v18 =>
 some v18)
 else (if (v1.Kind == 4) then (app 16 x1.2 [(ByteArray.mk #[115, 101, 110, 100]), v1.Name, (ByteArray.mk #[46]), v1.Tag, (ByteArray.mk #[40])] >>= fun v19 =>
 z6y v1.E >>= fun v20 =>
 app 16 v19 v20 >>= fun v21 =>
 app 16 v21 [(ByteArray.mk #[41]), (ByteArray.mk #[59])] >>= fun v22 =>
 some v22)
 else (if (v1.Kind == 5) then (app 16 x1.2 [(ByteArray.mk #[114, 101, 99, 118]), v1.Name, (ByteArray.mk #[123])] >>= fun v23 =>
 iter (z68 F_r02_stmtWords F_r02_block v1) (0, v23) >>= Sum.elim (fun _ => none) (fun j3 =>
 app 16 j3 [(ByteArray.mk #[125])] >>= fun v28 =>
 some v28))
 else (if (v1.Kind == 6) then (app 16 x1.2 [(ByteArray.mk #[97, 115, 115, 101, 114, 116])] >>= fun v29 =>
 z6z v1.C >>= fun v30 =>
 app 16 v29 v30 >>= fun v31 =>
 app 16 v31 [(ByteArray.mk #[59])] >>= fun v32 =>
 some v32)
 else (if (v1.Kind == 7) then (app 16 x1.2 [(ByteArray.mk #[105, 110, 112, 117, 116]), v1.Name, (ByteArray.mk #[59])] >>= fun v33 =>
 some v33)
 else (some x1.2))))))) : Option (List ByteArray)) >>= fun j2 =>
 some (.inl ((IntKind.i64.wrap (x1.1 + 1)), j2))))
 else (some (.inr (.inr x1.2)))

def z4s (r : (List ByteArray)) : List XV := [xL (List.map z1d r)]

def zeo (r : (List ByteArray)) : z0l := []

noncomputable def zep (r : (List ByteArray)) : Tg := .r false Tryz.f47.results.toList 0 (z4s r) (zeo r)

def z71 (r : (List ByteArray)) : List XV := [xL (List.map z1d r)]

def zpz (r : (List ByteArray)) : z0l := []

mutual
noncomputable def z3g : Nat → (List z05) → Option (List ByteArray)
  | 0, _ => none
  | n + 1, a0 => iter (z69 (z3g n) (z5v n) a0) (0, []) >>= Sum.elim (fun _ => none) (fun j1 =>
 some j1)
noncomputable def z5v : Nat → (List z05) → Option (List ByteArray)
  | 0, _ => none
  | n + 1, a0 => (z3g n) a0 >>= fun v1 =>
 app 16 [(ByteArray.mk #[123])] v1 >>= fun v2 =>
 app 16 v2 [(ByteArray.mk #[125])] >>= fun v3 =>
 some v3
end

noncomputable def zdu (a0 : (List z05)) : Option (List ByteArray) := unf fun n => z3g n a0

noncomputable def z9j (a0 : z16) (x1 : Int) : Option (Sum Int (Sum ((List ByteArray) × Int) Unit)) :=
 if (decide (x1 < (a0.Procs.length : Int))) then (idx a0.Procs x1 >>= fun v2 =>
 zi2 v2.Body >>= fun v3 =>
 ((if (decide (v3.1 > 24)) then (some true)
 else (some (decide (v3.2 > 24))) : Option Bool) >>= fun j2 =>
 if j2 then (some (.inr (.inl ([], 6))))
 else (some (.inl (IntKind.i64.wrap (x1 + 1))))))
 else (some (.inr (.inr ())))

noncomputable def z9k (v4 : z5b) (x4 : (Int × (List ByteArray))) : Option (Sum (Int × (List ByteArray)) (Sum ((List ByteArray) × Int) (List ByteArray))) :=
 if (decide (x4.1 < (v4.Tags.length : Int))) then (((if (decide (x4.1 > 0)) then (app 16 x4.2 [(ByteArray.mk #[44])] >>= fun v8 =>
 idx v4.Tags x4.1 >>= fun v9 =>
 app 16 v8 [v9] >>= fun v10 =>
 some v10)
 else (idx v4.Tags x4.1 >>= fun v11 =>
 app 16 x4.2 [v11] >>= fun v12 =>
 some v12) : Option (List ByteArray)) >>= fun j5 =>
 some (.inl ((IntKind.i64.wrap (x4.1 + 1)), j5))))
 else (some (.inr (.inr x4.2)))

noncomputable def z9l (a0 : z16) (x3 : (Int × (List ByteArray))) : Option (Sum (Int × (List ByteArray)) (Sum ((List ByteArray) × Int) (List ByteArray))) :=
 if (decide (x3.1 < (a0.Chans.length : Int))) then (idx a0.Chans x3.1 >>= fun v4 =>
 idx [(ByteArray.mk #[98, 108, 111, 99, 107]), (ByteArray.mk #[100, 114, 111, 112]), (ByteArray.mk #[108, 111, 115, 115, 121])] v4.Kind >>= fun v5 =>
 zaj v4.Size >>= fun v6 =>
 app 16 x3.2 [(ByteArray.mk #[99, 104, 97, 110]), v4.Name, v5, v6, (ByteArray.mk #[102, 114, 111, 109]), v4.From, (ByteArray.mk #[116, 111]), v4.To, (ByteArray.mk #[123])] >>= fun v7 =>
 iter (z9k v4) (0, v7) >>= Sum.elim (fun _ => none) (fun j4 =>
 app 16 j4 [(ByteArray.mk #[125]), (ByteArray.mk #[59])] >>= fun v13 =>
 some (.inl ((IntKind.i64.wrap (x3.1 + 1)), v13))))
 else (some (.inr (.inr x3.2)))

noncomputable def z9m (a0 : z16) (x6 : (Int × (List ByteArray))) (x7 : (Int × (List ByteArray))) : Option (Sum (Int × (List ByteArray)) (Sum ((List ByteArray) × Int) (List ByteArray))) :=
 idx a0.Rules x6.1 >>= fun v16 =>
 if (decide (x7.1 < (v16.Moves.length : Int))) then (idx a0.Rules x6.1 >>= fun v17 =>
 idx v17.Moves x7.1 >>= fun v18 =>
 zaj v18.From >>= fun v19 =>
 zaj v18.To >>= fun v20 =>
 app 16 x7.2 [v19, v18.Tag, v20, (ByteArray.mk #[59])] >>= fun v21 =>
 some (.inl ((IntKind.i64.wrap (x7.1 + 1)), v21)))
 else (some (.inr (.inr x7.2)))

noncomputable def z9n (a0 : z16) (x6 : (Int × (List ByteArray))) : Option (Sum (Int × (List ByteArray)) (Sum ((List ByteArray) × Int) (List ByteArray))) :=
 if (decide (x6.1 < (a0.Rules.length : Int))) then (idx a0.Rules x6.1 >>= fun v14 =>
 app 16 x6.2 [(ByteArray.mk #[114, 117, 108, 101]), v14.Chan, (ByteArray.mk #[123])] >>= fun v15 =>
 iter (z9m a0 x6) (0, v15) >>= Sum.elim (fun _ => none) (fun j7 =>
 app 16 j7 [(ByteArray.mk #[125])] >>= fun v22 =>
 some (.inl ((IntKind.i64.wrap (x6.1 + 1)), v22))))
 else (some (.inr (.inr x6.2)))

noncomputable def z9o (v23 : z4q) (x9 : (Int × (List ByteArray))) : Option (Sum (Int × (List ByteArray)) (Sum ((List ByteArray) × Int) (List ByteArray))) :=
 if (decide (x9.1 < (v23.Vars.length : Int))) then (idx v23.Vars x9.1 >>= fun v25 =>
 app 16 x9.2 [(ByteArray.mk #[118, 97, 114]), v25, (ByteArray.mk #[59])] >>= fun v26 =>
 some (.inl ((IntKind.i64.wrap (x9.1 + 1)), v26)))
 else (some (.inr (.inr x9.2)))

noncomputable def z9p (a0 : z16) (x8 : (Int × (List ByteArray))) : Option (Sum (Int × (List ByteArray)) (Sum ((List ByteArray) × Int) (List ByteArray))) :=
 if (decide (x8.1 < (a0.Procs.length : Int))) then (idx a0.Procs x8.1 >>= fun v23 =>
 app 16 x8.2 [(ByteArray.mk #[112, 114, 111, 99]), v23.Name, (ByteArray.mk #[123])] >>= fun v24 =>
 iter (z9o v23) (0, v24) >>= Sum.elim (fun _ => none) (fun j9 =>
 zdu v23.Body >>= fun v27 =>
 app 16 j9 v27 >>= fun v28 =>
 app 16 v28 [(ByteArray.mk #[125])] >>= fun v29 =>
 some (.inl ((IntKind.i64.wrap (x8.1 + 1)), v29))))
 else (some (.inr (.inr x8.2)))

noncomputable def zeq (a0 : z16) : Option ((List ByteArray) × Int) :=
 zen a0 >>= fun v1 =>
 if (!v1) then (some ([], 5))
 else (iter (z9j a0) 0 >>= Sum.elim (fun r => some r) (fun j1 =>
 iter (z9l a0) (0, []) >>= Sum.elim (fun _ => none) (fun j3 =>
 iter (z9n a0) (0, j3) >>= Sum.elim (fun _ => none) (fun j6 =>
 iter (z9p a0) (0, j6) >>= Sum.elim (fun _ => none) (fun j8 =>
 if (decide ((j8.length : Int) > 2000)) then (some ([], 4))
 else (some (j8, 0)))))))

def zdv (r : ((List ByteArray) × Int)) : List XV := [xL (List.map z1d r.1), xI r.2]

def zk2 (r : ((List ByteArray) × Int)) : z0l := []

noncomputable def z8u (r : ((List ByteArray) × Int)) : Tg := .r false Tryz.f14.results.toList 0 (zdv r) (zk2 r)

noncomputable def zbp (a0 : Int) : Option Bool :=
 if (decide (a0 ≥ 97)) then (some (decide (a0 ≤ 122)))
 else (some false)

def zay (r : Bool) : List XV := [xB r]

def zo7 (r : Bool) : z0l := []

noncomputable def zd1 (a0 : Int) : Option Bool :=
 if (decide (a0 ≥ 48)) then (some (decide (a0 ≤ 57)))
 else (some false)

def zdw (r : Bool) : List XV := [xB r]

def zq0 (r : Bool) : z0l := []

noncomputable def zak (a0 : ByteArray) (x1 : Int) : Option (Sum Int (Sum Int Int)) :=
 ((if (decide (x1 < (a0.size : Int))) then (bidx a0 x1 >>= fun v1 =>
 zbp v1 >>= fun v2 =>
 if v2 then (some true)
 else (bidx a0 x1 >>= fun v3 =>
 zd1 v3 >>= fun v4 =>
 some v4))
 else (some false) : Option Bool) >>= fun j2 =>
 if j2 then (some (.inl (IntKind.i64.wrap (x1 + 1))))
 else (some (.inr (.inr x1))))

noncomputable def zi3 (a0 : ByteArray) : Option Int :=
 iter (zak a0) 0 >>= Sum.elim (fun _ => none) (fun j1 =>
 some j1)

def zer (r : Int) : List XV := [xI r]

def zo8 (r : Int) : z0l := []

noncomputable def zwd (r : Int) : Tg := .r false Tryz.f92.results.toList 0 (zer r) (zo8 r)

noncomputable def zaz (a0 : ByteArray) : Option Bool :=
 if (a0.toList == (ByteArray.mk #[99, 104, 97, 110]).toList) then (some true)
 else (if (a0.toList == (ByteArray.mk #[98, 108, 111, 99, 107]).toList) then (some true)
 else (if (a0.toList == (ByteArray.mk #[100, 114, 111, 112]).toList) then (some true)
 else (if (a0.toList == (ByteArray.mk #[108, 111, 115, 115, 121]).toList) then (some true)
 else (if (a0.toList == (ByteArray.mk #[102, 114, 111, 109]).toList) then (some true)
 else (if (a0.toList == (ByteArray.mk #[116, 111]).toList) then (some true)
 else (if (a0.toList == (ByteArray.mk #[114, 117, 108, 101]).toList) then (some true)
 else (if (a0.toList == (ByteArray.mk #[112, 114, 111, 99]).toList) then (some true)
 else (if (a0.toList == (ByteArray.mk #[118, 97, 114]).toList) then (some true)
 else (if (a0.toList == (ByteArray.mk #[105, 102]).toList) then (some true)
 else (if (a0.toList == (ByteArray.mk #[101, 108, 115, 101]).toList) then (some true)
 else (if (a0.toList == (ByteArray.mk #[119, 104, 105, 108, 101]).toList) then (some true)
 else (if (a0.toList == (ByteArray.mk #[115, 101, 110, 100]).toList) then (some true)
 else (if (a0.toList == (ByteArray.mk #[114, 101, 99, 118]).toList) then (some true)
 else (if (a0.toList == (ByteArray.mk #[97, 115, 115, 101, 114, 116]).toList) then (some true)
 else (if (a0.toList == (ByteArray.mk #[105, 110, 112, 117, 116]).toList) then (some true)
 else (some false))))))))))))))))

def zcq (r : Bool) : List XV := [xB r]

def zkq (r : Bool) : z0l := []

noncomputable def zd2 (a0 : ByteArray) : Option (z0b × Int) :=
 if (decide ((a0.size : Int) > 12)) then (some ((z0b.mk 0 (ByteArray.mk #[]) 0 0), 3))
 else (zaz a0 >>= fun v1 =>
 if v1 then (some ((z0b.mk 4 a0 0 0), 0))
 else (some ((z0b.mk 1 a0 0 0), 0)))

def zge (r : (z0b × Int)) : List XV := [.agg (bs (z1l r.1)), xI r.2]

def zq1 (r : (z0b × Int)) : z0l := []

def zs7 (r : (Int × Int)) : List XV := [xI r.1, xI r.2]

def zq2 (r : Int) : List XV := [xI r]

noncomputable def zhb (a0 : ByteArray) : Option Int :=
 ((if (decide ((a0.size : Int) > 1)) then (bidx a0 1 >>= fun v1 =>
 if (v1 == 61) then (bidx a0 0 >>= fun v2 =>
 zq3 (ByteArray.mk #[61, 33, 60, 62]) v2 >>= fun v3 =>
 some (decide (v3 ≥ 0)))
 else (some false))
 else (some false) : Option Bool) >>= fun j1 =>
 if j1 then (some 2)
 else (bidx a0 0 >>= fun v4 =>
 zq3 (ByteArray.mk #[123, 125, 40, 41, 59, 44, 46, 61, 60, 62, 43, 45, 42, 47, 37]) v4 >>= fun v5 =>
 if (decide (v5 ≥ 0)) then (some 1)
 else (some 0)))

def zi4 (r : Int) : List XV := [xI r]

def zu3 (r : Int) : z0l := []

noncomputable def zdx (a0 : ByteArray) : Option (z0b × Int) :=
 bidx a0 0 >>= fun v1 =>
 zbp v1 >>= fun v2 =>
 if v2 then (zi3 a0 >>= fun v3 =>
 ssub a0 0 v3 >>= fun v4 =>
 zd2 v4 >>= fun v5 =>
 some (v5.1, v5.2))
 else (bidx a0 0 >>= fun v6 =>
 zd1 v6 >>= fun v7 =>
 if v7 then (zi3 a0 >>= fun v8 =>
 ssub a0 0 v8 >>= fun v9 =>
 zk3 v9 >>= fun v10 =>
 some ((z0b.mk 2 v9 v10.1 0), v10.2))
 else (zhb a0 >>= fun v11 =>
 if (v11 == 0) then (some ((z0b.mk 0 (ByteArray.mk #[]) 0 0), 2))
 else (ssub a0 0 v11 >>= fun v12 =>
 some ((z0b.mk 3 v12 0 0), 0))))

def zi5 (r : (z0b × Int)) : List XV := [.agg (bs (z1l r.1)), xI r.2]

def zu4 (r : (z0b × Int)) : z0l := []

noncomputable def zal (a0 : ByteArray) (x1 : (Int × (List z0b))) : Option (Sum (Int × (List z0b)) (Sum ((List z0b) × Int × Int) (List z0b))) :=
 if (decide (x1.1 < (a0.size : Int))) then (((bidx a0 x1.1 >>= fun v1 =>
 if (v1 == 32) then (some true)
 else (bidx a0 x1.1 >>= fun v2 =>
 some (v2 == 10)) : Option Bool) >>= fun j2 =>
 if j2 then (some (.inl ((IntKind.i64.wrap (x1.1 + 1)), x1.2)))
 else (ssub a0 x1.1 (a0.size : Int) >>= fun v3 =>
 zdx v3 >>= fun v4 =>
 if (v4.2 != 0) then (some (.inr (.inl ([], x1.1, v4.2))))
 else (app 40 x1.2 [(z0b.mk v4.1.Kind v4.1.Text v4.1.Num x1.1)] >>= fun v5 =>
 some (.inl ((IntKind.i64.wrap (x1.1 + (v4.1.Text.size : Int))), v5))))))
 else (some (.inr (.inr x1.2)))

noncomputable def zgf (a0 : ByteArray) : Option ((List z0b) × Int × Int) :=
 iter (zal a0) (0, []) >>= Sum.elim (fun r => some r) (fun j1 =>
 if (decide ((j1.length : Int) > 2000)) then (some ([], (a0.size : Int), 4))
 else (some (j1, 0, 0)))

def zhc (r : ((List z0b) × Int × Int)) : List XV := [xL (List.map z1l r.1), xI r.2.1, xI r.2.2]

def zo9 (r : ((List z0b) × Int × Int)) : z0l := []

noncomputable def zwe (r : ((List z0b) × Int × Int)) : Tg := .r false Tryz.f19.results.toList 0 (zhc r) (zo9 r)

noncomputable def z2k (a0 : z00) (a1 : ByteArray) : Option Bool :=
 if (a0.f_e == 0) then (if (decide ((a0.f_l.length : Int) > 0)) then (idx a0.f_l 0 >>= fun v1 =>
 if (decide (v1.Kind ≥ 3)) then (idx a0.f_l 0 >>= fun v2 =>
 some (v2.Text.toList == a1.toList))
 else (some false))
 else (some false))
 else (some false)

def z41 (r : Bool) : List XV := [xB r]

def z42 (a0 : z00) (r : Bool) : z0l := [oB 71 (bs (z01 a0))]

noncomputable def z0d (a0 : z00) (a1 : ByteArray) : Option (z00 × Bool) :=
 z2k a0 a1 >>= fun v1 =>
 if (!v1) then (some (a0, false))
 else (lsub a0.f_l 1 (a0.f_l.length : Int) >>= fun v2 =>
 some ((z00.mk v2 a0.f_end a0.f_e a0.f_at a0.f_deep a0.f_in), true))

def z1u (r : (z00 × Bool)) : List XV := [xB r.2]

def z1v (r : (z00 × Bool)) : z0l := [oB 71 (bs (z01 r.1))]

noncomputable def z4t (a0 : z00) (a1 : Int) : Option Bool :=
 if (a0.f_e == 0) then (if (decide ((a0.f_l.length : Int) > 0)) then (idx a0.f_l 0 >>= fun v1 =>
 some (v1.Kind == a1))
 else (some false))
 else (some false)

def z82 (r : Bool) : List XV := [xB r]

def z83 (a0 : z00) (r : Bool) : z0l := [oB 71 (bs (z01 a0))]

noncomputable def z1o (a0 : z00) (a1 : Int) : Option z00 :=
 if (a0.f_e != 0) then (some a0)
 else (if (decide ((a0.f_l.length : Int) > 0)) then (idx a0.f_l 0 >>= fun v1 =>
 some (z00.mk a0.f_l a0.f_end a1 v1.At a0.f_deep a0.f_in))
 else (some (z00.mk a0.f_l a0.f_end a1 a0.f_end a0.f_deep a0.f_in)))

def z43 (r : z00) : List XV := []

def z44 (r : z00) : z0l := [oB 71 (bs (z01 r))]

noncomputable def z4m (a0 : z00) (a1 : Int) : Option (z00 × z0b) :=
 z4t a0 a1 >>= fun v1 =>
 if (!v1) then (z1o a0 5 >>= fun v2 =>
 some (v2, (z0b.mk 0 (ByteArray.mk #[]) 0 0)))
 else (idx a0.f_l 0 >>= fun v3 =>
 lsub a0.f_l 1 (a0.f_l.length : Int) >>= fun v4 =>
 some ((z00.mk v4 a0.f_end a0.f_e a0.f_at a0.f_deep a0.f_in), v3))

def z8v (r : (z00 × z0b)) : List XV := [.agg (bs (z1l r.2))]

def z8w (r : (z00 × z0b)) : z0l := [oB 71 (bs (z01 r.1))]

noncomputable def z0c (a0 : z00) : Option (z00 × ByteArray) :=
 z4m a0 1 >>= fun v1 =>
 some (v1.1, v1.2.Text)

def z1f (r : (z00 × ByteArray)) : List XV := [xS r.2]

def z1g (r : (z00 × ByteArray)) : z0l := [oB 71 (bs (z01 r.1))]

noncomputable def z0g (a0 : (List ByteArray)) (x1 : (Int × (List z0b) × Int × Int × Int × Int × Int)) : Option (Sum (Int × (List z0b) × Int × Int × Int × Int × Int) (Sum (z00 × Int) ((List z0b) × Int × Int × Int × Int × Int))) :=
 if (decide (x1.1 < (a0.length : Int))) then (idx a0 x1.1 >>= fun v1 =>
 z0d (z00.mk x1.2.1 x1.2.2.1 x1.2.2.2.1 x1.2.2.2.2.1 x1.2.2.2.2.2.1 x1.2.2.2.2.2.2) v1 >>= fun v2 =>
 if v2.2 then (some (.inr (.inl (v2.1, x1.1))))
 else (some (.inl ((IntKind.i64.wrap (x1.1 + 1)), v2.1.f_l, v2.1.f_end, v2.1.f_e, v2.1.f_at, v2.1.f_deep, v2.1.f_in))))
 else (some (.inr (.inr (x1.2.1, x1.2.2.1, x1.2.2.2.1, x1.2.2.2.2.1, x1.2.2.2.2.2.1, x1.2.2.2.2.2.2))))

noncomputable def z1n (a0 : (List ByteArray)) (a1010 : z00) : Option (z00 × Int) :=
 iter (z0g a0) (0, a1010.f_l, a1010.f_end, a1010.f_e, a1010.f_at, a1010.f_deep, a1010.f_in) >>= Sum.elim (fun r => some r) (fun j1 =>
 some ((z00.mk j1.1 j1.2.1 j1.2.2.1 j1.2.2.2.1 j1.2.2.2.2.1 j1.2.2.2.2.2), (-1)))

def z2w (r : (z00 × Int)) : List XV := [xI r.2]

def z2x (r : (z00 × Int)) : z0l := [oB 71 (bs (z01 r.1))]

noncomputable def z60 (r : (z00 × Int)) : Tg := .r false Tryz.f97.results.toList 1 (z2w r) (z2x r)

noncomputable def z1a (a0 : z00) (a1 : (List ByteArray)) : Option (z00 × Int) :=
 z1n a1 a0 >>= fun v1 =>
 some (v1.1, v1.2)

def z5l (r : (z00 × Int)) : List XV := [xI r.2]

def z5m (r : (z00 × Int)) : z0l := [oB 71 (bs (z01 r.1))]

noncomputable def z1j (a0 : z00) : Option (z00 × Int) :=
 z4m a0 2 >>= fun v1 =>
 some (v1.1, v1.2.Num)

def z59 (r : (z00 × Int)) : List XV := [xI r.2]

def z5a (r : (z00 × Int)) : z0l := [oB 71 (bs (z01 r.1))]

noncomputable def z04 (a0 : z00) (a1 : ByteArray) : Option z00 :=
 z0d a0 a1 >>= fun v1 =>
 if (!v1.2) then (z1o v1.1 5 >>= fun v2 =>
 some v2)
 else (some v1.1)

def z0h (r : z00) : List XV := []

def z0i (r : z00) : z0l := [oB 71 (bs (z01 r))]

noncomputable def z1m (x1 : ((List z0b) × Int × Int × Int × Int × Int × (List ByteArray))) : Option (Sum ((List z0b) × Int × Int × Int × Int × Int × (List ByteArray)) (Sum (z00 × z24) ((List z0b) × Int × Int × Int × Int × Int × (List ByteArray)))) :=
 z0d (z00.mk x1.1 x1.2.1 x1.2.2.1 x1.2.2.2.1 x1.2.2.2.2.1 x1.2.2.2.2.2.1) (ByteArray.mk #[44]) >>= fun v12 =>
 if v12.2 then (z0c v12.1 >>= fun v13 =>
 app 16 x1.2.2.2.2.2.2 [v13.2] >>= fun v14 =>
 some (.inl (v13.1.f_l, v13.1.f_end, v13.1.f_e, v13.1.f_at, v13.1.f_deep, v13.1.f_in, v14)))
 else (some (.inr (.inr (v12.1.f_l, v12.1.f_end, v12.1.f_e, v12.1.f_at, v12.1.f_deep, v12.1.f_in, x1.2.2.2.2.2.2))))

noncomputable def z4v (a0 : z00) : Option (z00 × z24) :=
 z0c a0 >>= fun v1 =>
 z1a v1.1 [(ByteArray.mk #[98, 108, 111, 99, 107]), (ByteArray.mk #[100, 114, 111, 112]), (ByteArray.mk #[108, 111, 115, 115, 121])] >>= fun v2 =>
 if (decide (v2.2 < 0)) then (z1o v2.1 5 >>= fun v3 =>
 some (v3, (z24.mk v1.2 v2.2 0 (ByteArray.mk #[]) (ByteArray.mk #[]) [])))
 else (z1j v2.1 >>= fun v4 =>
 z04 v4.1 (ByteArray.mk #[102, 114, 111, 109]) >>= fun v5 =>
 z0c v5 >>= fun v6 =>
 z04 v6.1 (ByteArray.mk #[116, 111]) >>= fun v7 =>
 z0c v7 >>= fun v8 =>
 z04 v8.1 (ByteArray.mk #[123]) >>= fun v9 =>
 z0c v9 >>= fun v10 =>
 app 16 [] [v10.2] >>= fun v11 =>
 iter (z1m) (v10.1.f_l, v10.1.f_end, v10.1.f_e, v10.1.f_at, v10.1.f_deep, v10.1.f_in, v11) >>= Sum.elim (fun _ => none) (fun j1 =>
 z04 (z00.mk j1.1 j1.2.1 j1.2.2.1 j1.2.2.2.1 j1.2.2.2.2.1 j1.2.2.2.2.2.1) (ByteArray.mk #[125]) >>= fun v15 =>
 z04 v15 (ByteArray.mk #[59]) >>= fun v16 =>
 some (v16, (z24.mk v1.2 v2.2 v4.2 v6.2 v8.2 j1.2.2.2.2.2.2))))

def z7g (r : (z00 × z24)) : List XV := [.agg (bs (z1s r.2))]

def z7h (r : (z00 × z24)) : z0l := [oB 71 (bs (z01 r.1))]

noncomputable def ze8 (r : (z00 × z24)) : Tg := .r false Tryz.f21.results.toList 1 (z7g r) (z7h r)

noncomputable def z2q (x1 : ((List z0b) × Int × Int × Int × Int × Int × (List z35))) : Option (Sum ((List z0b) × Int × Int × Int × Int × Int × (List z35)) (Sum (z00 × z2c) ((List z0b) × Int × Int × Int × Int × Int × (List z35)))) :=
 ((if (x1.2.2.1 == 0) then (z2k (z00.mk x1.1 x1.2.1 x1.2.2.1 x1.2.2.2.1 x1.2.2.2.2.1 x1.2.2.2.2.2.1) (ByteArray.mk #[125]) >>= fun v3 =>
 some (!v3))
 else (some false) : Option Bool) >>= fun j2 =>
 if j2 then (z1j (z00.mk x1.1 x1.2.1 x1.2.2.1 x1.2.2.2.1 x1.2.2.2.2.1 x1.2.2.2.2.2.1) >>= fun v4 =>
 z0c v4.1 >>= fun v5 =>
 z1j v5.1 >>= fun v6 =>
 z04 v6.1 (ByteArray.mk #[59]) >>= fun v7 =>
 app 32 x1.2.2.2.2.2.2 [(z35.mk v4.2 v5.2 v6.2)] >>= fun v8 =>
 some (.inl (v7.f_l, v7.f_end, v7.f_e, v7.f_at, v7.f_deep, v7.f_in, v8)))
 else (some (.inr (.inr (x1.1, x1.2.1, x1.2.2.1, x1.2.2.2.1, x1.2.2.2.2.1, x1.2.2.2.2.2.1, x1.2.2.2.2.2.2)))))

noncomputable def z5w (a0 : z00) : Option (z00 × z2c) :=
 z0c a0 >>= fun v1 =>
 z04 v1.1 (ByteArray.mk #[123]) >>= fun v2 =>
 iter (z2q) (v2.f_l, v2.f_end, v2.f_e, v2.f_at, v2.f_deep, v2.f_in, []) >>= Sum.elim (fun _ => none) (fun j1 =>
 z04 (z00.mk j1.1 j1.2.1 j1.2.2.1 j1.2.2.2.1 j1.2.2.2.2.1 j1.2.2.2.2.2.1) (ByteArray.mk #[125]) >>= fun v9 =>
 some (v9, (z2c.mk v1.2 j1.2.2.2.2.2.2)))

def z8x (r : (z00 × z2c)) : List XV := [.agg (bs (z2g r.2))]

def z8y (r : (z00 × z2c)) : z0l := [oB 71 (bs (z01 r.1))]

noncomputable def zgg (r : (z00 × z2c)) : Tg := .r false Tryz.f22.results.toList 1 (z8x r) (z8y r)

noncomputable def z5e (a0 : z00) : Option (z00 × Bool) :=
 if (a0.f_deep == 24) then (z1o a0 6 >>= fun v1 =>
 some (v1, false))
 else (some ((z00.mk a0.f_l a0.f_end a0.f_e a0.f_at (IntKind.i64.wrap (a0.f_deep + 1)) a0.f_in), true))

def z8f (r : (z00 × Bool)) : List XV := [xB r.2]

def z8g (r : (z00 × Bool)) : z0l := [oB 71 (bs (z01 r.1))]

def z1w (r : (z00 × z03)) : List XV := [.agg (bs (z2j r.2))]

def z1x (r : (z00 × z03)) : z0l := [oB 71 (bs (z01 r.1))]

noncomputable def z23 (F_parse_reader_expr : z00 → Option (z00 × z03)) (F_parse_reader_chain_parse_reader_term : z00 → (List ByteArray) → Int → Option (z00 × z03)) (F_parse_reader_term : z00 → Option (z00 × z03)) (F_parse_reader_chain_parse_reader_factor : z00 → (List ByteArray) → Int → Option (z00 × z03)) (F_parse_reader_factor : z00 → Option (z00 × z03)) (F_parse_reader_negated : z00 → Option (z00 × z03)) (F_parse_reader_parens : z00 → Option (z00 × z03)) (a2 : (List ByteArray)) (a3 : Int) (x1 : ((List z0b) × Int × Int × Int × Int × Int × Int × Int × ByteArray × (List z03))) : Option (Sum ((List z0b) × Int × Int × Int × Int × Int × Int × Int × ByteArray × (List z03)) (Sum (z00 × z03) ((List z0b) × Int × Int × Int × Int × Int × Int × Int × ByteArray × (List z03)))) :=
 if (x1.2.2.1 == 0) then (z1a (z00.mk x1.1 x1.2.1 x1.2.2.1 x1.2.2.2.1 x1.2.2.2.2.1 x1.2.2.2.2.2.1) a2 >>= fun v2 =>
 if (decide (v2.2 < 0)) then (some (.inr (.inr (v2.1.f_l, v2.1.f_end, v2.1.f_e, v2.1.f_at, v2.1.f_deep, v2.1.f_in, x1.2.2.2.2.2.2.1, x1.2.2.2.2.2.2.2.1, x1.2.2.2.2.2.2.2.2.1, x1.2.2.2.2.2.2.2.2.2))))
 else (F_parse_reader_term v2.1 >>= fun v3 =>
 some (.inl (v3.1.f_l, v3.1.f_end, v3.1.f_e, v3.1.f_at, v3.1.f_deep, v3.1.f_in, (IntKind.i64.wrap (a3 + v2.2)), 0, (ByteArray.mk #[]), [(z03.mk x1.2.2.2.2.2.2.1 x1.2.2.2.2.2.2.2.1 x1.2.2.2.2.2.2.2.2.1 x1.2.2.2.2.2.2.2.2.2), v3.2]))))
 else (some (.inr (.inr (x1.1, x1.2.1, x1.2.2.1, x1.2.2.2.1, x1.2.2.2.2.1, x1.2.2.2.2.2.1, x1.2.2.2.2.2.2.1, x1.2.2.2.2.2.2.2.1, x1.2.2.2.2.2.2.2.2.1, x1.2.2.2.2.2.2.2.2.2))))

def z0v (r : (z00 × z03)) : List XV := [.agg (bs (z2j r.2))]

def z0w (r : (z00 × z03)) : z0l := [oB 71 (bs (z01 r.1))]

noncomputable def z84 (r : (z00 × z03)) : Tg := .r false Tryz.f160.results.toList 1 (z0v r) (z0w r)

def z2y (r : (z00 × z03)) : List XV := [.agg (bs (z2j r.2))]

def z2z (r : (z00 × z03)) : z0l := [oB 71 (bs (z01 r.1))]

noncomputable def z1p (F_parse_reader_expr : z00 → Option (z00 × z03)) (F_parse_reader_chain_parse_reader_term : z00 → (List ByteArray) → Int → Option (z00 × z03)) (F_parse_reader_term : z00 → Option (z00 × z03)) (F_parse_reader_chain_parse_reader_factor : z00 → (List ByteArray) → Int → Option (z00 × z03)) (F_parse_reader_factor : z00 → Option (z00 × z03)) (F_parse_reader_negated : z00 → Option (z00 × z03)) (F_parse_reader_parens : z00 → Option (z00 × z03)) (a2 : (List ByteArray)) (a3 : Int) (x1 : ((List z0b) × Int × Int × Int × Int × Int × Int × Int × ByteArray × (List z03))) : Option (Sum ((List z0b) × Int × Int × Int × Int × Int × Int × Int × ByteArray × (List z03)) (Sum (z00 × z03) ((List z0b) × Int × Int × Int × Int × Int × Int × Int × ByteArray × (List z03)))) :=
 if (x1.2.2.1 == 0) then (z1a (z00.mk x1.1 x1.2.1 x1.2.2.1 x1.2.2.2.1 x1.2.2.2.2.1 x1.2.2.2.2.2.1) a2 >>= fun v2 =>
 if (decide (v2.2 < 0)) then (some (.inr (.inr (v2.1.f_l, v2.1.f_end, v2.1.f_e, v2.1.f_at, v2.1.f_deep, v2.1.f_in, x1.2.2.2.2.2.2.1, x1.2.2.2.2.2.2.2.1, x1.2.2.2.2.2.2.2.2.1, x1.2.2.2.2.2.2.2.2.2))))
 else (F_parse_reader_factor v2.1 >>= fun v3 =>
 some (.inl (v3.1.f_l, v3.1.f_end, v3.1.f_e, v3.1.f_at, v3.1.f_deep, v3.1.f_in, (IntKind.i64.wrap (a3 + v2.2)), 0, (ByteArray.mk #[]), [(z03.mk x1.2.2.2.2.2.2.1 x1.2.2.2.2.2.2.2.1 x1.2.2.2.2.2.2.2.2.1 x1.2.2.2.2.2.2.2.2.2), v3.2]))))
 else (some (.inr (.inr (x1.1, x1.2.1, x1.2.2.1, x1.2.2.2.1, x1.2.2.2.2.1, x1.2.2.2.2.2.1, x1.2.2.2.2.2.2.1, x1.2.2.2.2.2.2.2.1, x1.2.2.2.2.2.2.2.2.1, x1.2.2.2.2.2.2.2.2.2))))

def z0p (r : (z00 × z03)) : List XV := [.agg (bs (z2j r.2))]

def z0q (r : (z00 × z03)) : z0l := [oB 71 (bs (z01 r.1))]

noncomputable def z7k (r : (z00 × z03)) : Tg := .r false Tryz.f160.results.toList 1 (z0p r) (z0q r)

def z2e (r : (z00 × z03)) : List XV := [.agg (bs (z2j r.2))]

def z2f (r : (z00 × z03)) : z0l := [oB 71 (bs (z01 r.1))]

def z2o (r : (z00 × z03)) : List XV := [.agg (bs (z2j r.2))]

def z2p (r : (z00 × z03)) : z0l := [oB 71 (bs (z01 r.1))]

def z2s (r : (z00 × z03)) : List XV := [.agg (bs (z2j r.2))]

def z2t (r : (z00 × z03)) : z0l := [oB 71 (bs (z01 r.1))]

mutual
noncomputable def z13 : Nat → z00 → Option (z00 × z03)
  | 0, _ => none
  | n + 1, a0 => (z08 n) a0 [(ByteArray.mk #[43]), (ByteArray.mk #[45])] 4 >>= fun v1 =>
 some (v1.1, v1.2)
noncomputable def z08 : Nat → z00 → (List ByteArray) → Int → Option (z00 × z03)
  | 0, _, _, _ => none
  | n + 1, a0, a2, a3 => (z0z n) a0 >>= fun v1 =>
 iter (z23 (z13 n) (z08 n) (z0z n) (z07 n) (z0e n) (z10 n) (z14 n) a2 a3) (v1.1.f_l, v1.1.f_end, v1.1.f_e, v1.1.f_at, v1.1.f_deep, v1.1.f_in, v1.2.Kind, v1.2.Num, v1.2.Name, v1.2.Kids) >>= Sum.elim (fun _ => none) (fun j1 =>
 some ((z00.mk j1.1 j1.2.1 j1.2.2.1 j1.2.2.2.1 j1.2.2.2.2.1 j1.2.2.2.2.2.1), (z03.mk j1.2.2.2.2.2.2.1 j1.2.2.2.2.2.2.2.1 j1.2.2.2.2.2.2.2.2.1 j1.2.2.2.2.2.2.2.2.2)))
noncomputable def z0z : Nat → z00 → Option (z00 × z03)
  | 0, _ => none
  | n + 1, a0 => (z07 n) a0 [(ByteArray.mk #[42]), (ByteArray.mk #[47]), (ByteArray.mk #[37])] 6 >>= fun v1 =>
 some (v1.1, v1.2)
noncomputable def z07 : Nat → z00 → (List ByteArray) → Int → Option (z00 × z03)
  | 0, _, _, _ => none
  | n + 1, a0, a2, a3 => (z0e n) a0 >>= fun v1 =>
 iter (z1p (z13 n) (z08 n) (z0z n) (z07 n) (z0e n) (z10 n) (z14 n) a2 a3) (v1.1.f_l, v1.1.f_end, v1.1.f_e, v1.1.f_at, v1.1.f_deep, v1.1.f_in, v1.2.Kind, v1.2.Num, v1.2.Name, v1.2.Kids) >>= Sum.elim (fun _ => none) (fun j1 =>
 some ((z00.mk j1.1 j1.2.1 j1.2.2.1 j1.2.2.2.1 j1.2.2.2.2.1 j1.2.2.2.2.2.1), (z03.mk j1.2.2.2.2.2.2.1 j1.2.2.2.2.2.2.2.1 j1.2.2.2.2.2.2.2.2.1 j1.2.2.2.2.2.2.2.2.2)))
noncomputable def z0e : Nat → z00 → Option (z00 × z03)
  | 0, _ => none
  | n + 1, a0 => z2k a0 (ByteArray.mk #[45]) >>= fun v1 =>
 if v1 then ((z10 n) a0 >>= fun v2 =>
 some (v2.1, v2.2))
 else (z2k a0 (ByteArray.mk #[40]) >>= fun v3 =>
 if v3 then ((z14 n) a0 >>= fun v4 =>
 some (v4.1, v4.2))
 else (z4t a0 2 >>= fun v5 =>
 if v5 then (z1j a0 >>= fun v6 =>
 some (v6.1, (z03.mk 1 v6.2 (ByteArray.mk #[]) [])))
 else (z0c a0 >>= fun v7 =>
 some (v7.1, (z03.mk 2 0 v7.2 [])))))
noncomputable def z10 : Nat → z00 → Option (z00 × z03)
  | 0, _ => none
  | n + 1, a0 => z5e a0 >>= fun v1 =>
 if (!v1.2) then (some (v1.1, (z03.mk 0 0 (ByteArray.mk #[]) [])))
 else (z04 v1.1 (ByteArray.mk #[45]) >>= fun v2 =>
 (z0e n) v2 >>= fun v3 =>
 some ((z00.mk v3.1.f_l v3.1.f_end v3.1.f_e v3.1.f_at (IntKind.i64.wrap (v3.1.f_deep - 1)) v3.1.f_in), (z03.mk 3 0 (ByteArray.mk #[]) [v3.2])))
noncomputable def z14 : Nat → z00 → Option (z00 × z03)
  | 0, _ => none
  | n + 1, a0 => z5e a0 >>= fun v1 =>
 if (!v1.2) then (some (v1.1, (z03.mk 0 0 (ByteArray.mk #[]) [])))
 else (z04 v1.1 (ByteArray.mk #[40]) >>= fun v2 =>
 (z13 n) v2 >>= fun v3 =>
 z04 v3.1 (ByteArray.mk #[41]) >>= fun v4 =>
 some ((z00.mk v4.f_l v4.f_end v4.f_e v4.f_at (IntKind.i64.wrap (v4.f_deep - 1)) v4.f_in), v3.2))
end

noncomputable def z49 (a0 : z00) : Option (z00 × z03) := unf fun n => z13 n a0

noncomputable def z5x (a0 : z00) : Option (z00 × z02) :=
 z0c a0 >>= fun v1 =>
 z04 v1.1 (ByteArray.mk #[46]) >>= fun v2 =>
 z0c v2 >>= fun v3 =>
 z04 v3.1 (ByteArray.mk #[40]) >>= fun v4 =>
 z49 v4 >>= fun v5 =>
 z04 v5.1 (ByteArray.mk #[41]) >>= fun v6 =>
 z04 v6 (ByteArray.mk #[59]) >>= fun v7 =>
 some (v7, (z02.mk 4 v1.2 v3.2 v5.2 (z2n.mk 0 (z03.mk 0 0 (ByteArray.mk #[]) []) (z03.mk 0 0 (ByteArray.mk #[]) [])) [] [] []))

def zc4 (r : (z00 × z02)) : List XV := [.agg (bs (z1t r.2))]

def zc5 (r : (z00 × z02)) : z0l := [oB 71 (bs (z01 r.1))]

noncomputable def z4a (a0 : z00) : Option (z00 × z2n) :=
 z04 a0 (ByteArray.mk #[40]) >>= fun v1 =>
 z49 v1 >>= fun v2 =>
 z1a v2.1 [(ByteArray.mk #[61, 61]), (ByteArray.mk #[33, 61]), (ByteArray.mk #[60]), (ByteArray.mk #[60, 61]), (ByteArray.mk #[62]), (ByteArray.mk #[62, 61])] >>= fun v3 =>
 if (decide (v3.2 < 0)) then (z1o v3.1 5 >>= fun v4 =>
 some (v4, (z2n.mk 0 v2.2 (z03.mk 0 0 (ByteArray.mk #[]) []))))
 else (z49 v3.1 >>= fun v5 =>
 z04 v5.1 (ByteArray.mk #[41]) >>= fun v6 =>
 some (v6, (z2n.mk (IntKind.i64.wrap (1 + v3.2)) v2.2 v5.2)))

def z73 (r : (z00 × z2n)) : List XV := [.agg (bs (zbo r.2))]

def z74 (r : (z00 × z2n)) : z0l := [oB 71 (bs (z01 r.1))]

noncomputable def z52 (a0 : z00) : Option (z00 × z02) :=
 z4a a0 >>= fun v1 =>
 z04 v1.1 (ByteArray.mk #[59]) >>= fun v2 =>
 some (v2, (z02.mk 6 (ByteArray.mk #[]) (ByteArray.mk #[]) (z03.mk 0 0 (ByteArray.mk #[]) []) v1.2 [] [] []))

def zb0 (r : (z00 × z02)) : List XV := [.agg (bs (z1t r.2))]

def zb1 (r : (z00 × z02)) : z0l := [oB 71 (bs (z01 r.1))]

noncomputable def z5f (a0 : z00) : Option (z00 × z02) :=
 z0c a0 >>= fun v1 =>
 z04 v1.1 (ByteArray.mk #[59]) >>= fun v2 =>
 some (v2, (z02.mk 7 v1.2 (ByteArray.mk #[]) (z03.mk 0 0 (ByteArray.mk #[]) []) (z2n.mk 0 (z03.mk 0 0 (ByteArray.mk #[]) []) (z03.mk 0 0 (ByteArray.mk #[]) [])) [] [] []))

def zb9 (r : (z00 × z02)) : List XV := [.agg (bs (z1t r.2))]

def zba (r : (z00 × z02)) : z0l := [oB 71 (bs (z01 r.1))]

noncomputable def z54 (a0 : z00) : Option (z00 × z02) :=
 z0c a0 >>= fun v1 =>
 z04 v1.1 (ByteArray.mk #[61]) >>= fun v2 =>
 z49 v2 >>= fun v3 =>
 z04 v3.1 (ByteArray.mk #[59]) >>= fun v4 =>
 some (v4, (z02.mk 1 v1.2 (ByteArray.mk #[]) v3.2 (z2n.mk 0 (z03.mk 0 0 (ByteArray.mk #[]) []) (z03.mk 0 0 (ByteArray.mk #[]) [])) [] [] []))

def zb2 (r : (z00 × z02)) : List XV := [.agg (bs (z1t r.2))]

def zb3 (r : (z00 × z02)) : z0l := [oB 71 (bs (z01 r.1))]

noncomputable def z6e (F_parse_reader_stmts : z00 → Option (z00 × (List z02))) (F_parse_reader_stmt : z00 → Option (z00 × z02 × Bool)) (F_parse_reader_conditional : z00 → Option (z00 × z02)) (F_parse_reader_loop : z00 → Option (z00 × z02)) (F_parse_reader_recv : z00 → Option (z00 × z02)) (F_parse_reader_block : z00 → Option (z00 × (List z02))) (F_parse_reader_arm : z00 → Option (z00 × z0n)) (x1 : ((List z0b) × Int × Int × Int × Int × Int × (List z02))) : Option (Sum ((List z0b) × Int × Int × Int × Int × Int × (List z02)) (Sum (z00 × (List z02)) Unit)) :=
 F_parse_reader_stmt (z00.mk x1.1 x1.2.1 x1.2.2.1 x1.2.2.2.1 x1.2.2.2.2.1 x1.2.2.2.2.2.1) >>= fun v1 =>
 if (!v1.2.2) then (some (.inr (.inl (v1.1, x1.2.2.2.2.2.2))))
 else (app 288 x1.2.2.2.2.2.2 [v1.2.1] >>= fun v2 =>
 some (.inl (v1.1.f_l, v1.1.f_end, v1.1.f_e, v1.1.f_at, v1.1.f_deep, v1.1.f_in, v2)))

def z28 (r : (z00 × (List z02))) : List XV := [xL (List.map z0u r.2)]

def z29 (r : (z00 × (List z02))) : z0l := [oB 71 (bs (z01 r.1))]

noncomputable def zfn (r : (z00 × (List z02))) : Tg := .r false Tryz.f61.results.toList 1 (z28 r) (z29 r)

def z3h (r : (z00 × z02 × Bool)) : List XV := [.agg (bs (z1t r.2.1)), xB r.2.2]

def z3i (r : (z00 × z02 × Bool)) : z0l := [oB 71 (bs (z01 r.1))]

def z1z (r : (z00 × z02)) : List XV := [.agg (bs (z1t r.2))]

def z22 (r : (z00 × z02)) : z0l := [oB 71 (bs (z01 r.1))]

def z3j (r : (z00 × z02)) : List XV := [.agg (bs (z1t r.2))]

def z3k (r : (z00 × z02)) : z0l := [oB 71 (bs (z01 r.1))]

noncomputable def z4w (F_parse_reader_stmts : z00 → Option (z00 × (List z02))) (F_parse_reader_stmt : z00 → Option (z00 × z02 × Bool)) (F_parse_reader_conditional : z00 → Option (z00 × z02)) (F_parse_reader_loop : z00 → Option (z00 × z02)) (F_parse_reader_recv : z00 → Option (z00 × z02)) (F_parse_reader_block : z00 → Option (z00 × (List z02))) (F_parse_reader_arm : z00 → Option (z00 × z0n)) (x1 : ((List z0b) × Int × Int × Int × Int × Int × (List z0n))) : Option (Sum ((List z0b) × Int × Int × Int × Int × Int × (List z0n)) (Sum (z00 × z02) ((List z0b) × Int × Int × Int × Int × Int × (List z0n)))) :=
 ((if (x1.2.2.1 == 0) then (z2k (z00.mk x1.1 x1.2.1 x1.2.2.1 x1.2.2.2.1 x1.2.2.2.2.1 x1.2.2.2.2.2.1) (ByteArray.mk #[125]) >>= fun v5 =>
 some (!v5))
 else (some false) : Option Bool) >>= fun j2 =>
 if j2 then (F_parse_reader_arm (z00.mk x1.1 x1.2.1 x1.2.2.1 x1.2.2.2.1 x1.2.2.2.2.1 x1.2.2.2.2.2.1) >>= fun v6 =>
 app 56 x1.2.2.2.2.2.2 [v6.2] >>= fun v7 =>
 some (.inl (v6.1.f_l, v6.1.f_end, v6.1.f_e, v6.1.f_at, v6.1.f_deep, v6.1.f_in, v7)))
 else (some (.inr (.inr (x1.1, x1.2.1, x1.2.2.1, x1.2.2.2.1, x1.2.2.2.2.1, x1.2.2.2.2.2.1, x1.2.2.2.2.2.2)))))

def z30 (r : (z00 × z02)) : List XV := [.agg (bs (z1t r.2))]

def z31 (r : (z00 × z02)) : z0l := [oB 71 (bs (z01 r.1))]

noncomputable def zgh (r : (z00 × z02)) : Tg := .r false Tryz.f119.results.toList 1 (z30 r) (z31 r)

def z2a (r : (z00 × (List z02))) : List XV := [xL (List.map z0u r.2)]

def z2b (r : (z00 × (List z02))) : z0l := [oB 71 (bs (z01 r.1))]

def z3b (r : (z00 × z0n)) : List XV := [.agg (bs (z57 r.2))]

def z3c (r : (z00 × z0n)) : z0l := [oB 71 (bs (z01 r.1))]

mutual
noncomputable def z0x : Nat → z00 → Option (z00 × (List z02))
  | 0, _ => none
  | n + 1, a0 => iter (z6e (z0x n) (z0j n) (z0r n) (z1h n) (z1b n) (z0f n) (z12 n)) (a0.f_l, a0.f_end, a0.f_e, a0.f_at, a0.f_deep, a0.f_in, []) >>= Sum.elim (fun r => some r) (fun j1 =>
 none)
noncomputable def z0j : Nat → z00 → Option (z00 × z02 × Bool)
  | 0, _ => none
  | n + 1, a0 => z0d a0 (ByteArray.mk #[105, 102]) >>= fun v1 =>
 if v1.2 then ((z0r n) v1.1 >>= fun v2 =>
 some (v2.1, v2.2, true))
 else (z0d v1.1 (ByteArray.mk #[119, 104, 105, 108, 101]) >>= fun v3 =>
 if v3.2 then ((z1h n) v3.1 >>= fun v4 =>
 some (v4.1, v4.2, true))
 else (z0d v3.1 (ByteArray.mk #[115, 101, 110, 100]) >>= fun v5 =>
 if v5.2 then (z5x v5.1 >>= fun v6 =>
 some (v6.1, v6.2, true))
 else (z0d v5.1 (ByteArray.mk #[114, 101, 99, 118]) >>= fun v7 =>
 if v7.2 then ((z1b n) v7.1 >>= fun v8 =>
 some (v8.1, v8.2, true))
 else (z0d v7.1 (ByteArray.mk #[97, 115, 115, 101, 114, 116]) >>= fun v9 =>
 if v9.2 then (z52 v9.1 >>= fun v10 =>
 some (v10.1, v10.2, true))
 else (z0d v9.1 (ByteArray.mk #[105, 110, 112, 117, 116]) >>= fun v11 =>
 if v11.2 then (z5f v11.1 >>= fun v12 =>
 some (v12.1, v12.2, true))
 else (z4t v11.1 1 >>= fun v13 =>
 if v13 then (z54 v11.1 >>= fun v14 =>
 some (v14.1, v14.2, true))
 else (some (v11.1, (z02.mk 0 (ByteArray.mk #[]) (ByteArray.mk #[]) (z03.mk 0 0 (ByteArray.mk #[]) []) (z2n.mk 0 (z03.mk 0 0 (ByteArray.mk #[]) []) (z03.mk 0 0 (ByteArray.mk #[]) [])) [] [] []), false))))))))
noncomputable def z0r : Nat → z00 → Option (z00 × z02)
  | 0, _ => none
  | n + 1, a0 => z4a a0 >>= fun v1 =>
 (z0f n) v1.1 >>= fun v2 =>
 z0d v2.1 (ByteArray.mk #[101, 108, 115, 101]) >>= fun v3 =>
 if v3.2 then ((z0f n) v3.1 >>= fun v4 =>
 some (v4.1, (z02.mk 2 (ByteArray.mk #[]) (ByteArray.mk #[]) (z03.mk 0 0 (ByteArray.mk #[]) []) v1.2 v2.2 v4.2 [])))
 else (some (v3.1, (z02.mk 2 (ByteArray.mk #[]) (ByteArray.mk #[]) (z03.mk 0 0 (ByteArray.mk #[]) []) v1.2 v2.2 [] [])))
noncomputable def z1h : Nat → z00 → Option (z00 × z02)
  | 0, _ => none
  | n + 1, a0 => z4a a0 >>= fun v1 =>
 (z0f n) v1.1 >>= fun v2 =>
 some (v2.1, (z02.mk 3 (ByteArray.mk #[]) (ByteArray.mk #[]) (z03.mk 0 0 (ByteArray.mk #[]) []) v1.2 v2.2 [] []))
noncomputable def z1b : Nat → z00 → Option (z00 × z02)
  | 0, _ => none
  | n + 1, a0 => z0c a0 >>= fun v1 =>
 z04 v1.1 (ByteArray.mk #[123]) >>= fun v2 =>
 (z12 n) v2 >>= fun v3 =>
 app 56 [] [v3.2] >>= fun v4 =>
 iter (z4w (z0x n) (z0j n) (z0r n) (z1h n) (z1b n) (z0f n) (z12 n)) (v3.1.f_l, v3.1.f_end, v3.1.f_e, v3.1.f_at, v3.1.f_deep, v3.1.f_in, v4) >>= Sum.elim (fun _ => none) (fun j1 =>
 z04 (z00.mk j1.1 j1.2.1 j1.2.2.1 j1.2.2.2.1 j1.2.2.2.2.1 j1.2.2.2.2.2.1) (ByteArray.mk #[125]) >>= fun v8 =>
 some (v8, (z02.mk 5 v1.2 (ByteArray.mk #[]) (z03.mk 0 0 (ByteArray.mk #[]) []) (z2n.mk 0 (z03.mk 0 0 (ByteArray.mk #[]) []) (z03.mk 0 0 (ByteArray.mk #[]) [])) [] [] j1.2.2.2.2.2.2)))
noncomputable def z0f : Nat → z00 → Option (z00 × (List z02))
  | 0, _ => none
  | n + 1, a0 => ((z2k a0 (ByteArray.mk #[123]) >>= fun v1 =>
 if v1 then (some (a0.f_in == 24))
 else (some false) : Option Bool) >>= fun j1 =>
 if j1 then (z1o a0 6 >>= fun v2 =>
 some (v2, []))
 else (z04 a0 (ByteArray.mk #[123]) >>= fun v3 =>
 (z0x n) (z00.mk v3.f_l v3.f_end v3.f_e v3.f_at v3.f_deep (IntKind.i64.wrap (v3.f_in + 1))) >>= fun v4 =>
 z04 (z00.mk v4.1.f_l v4.1.f_end v4.1.f_e v4.1.f_at v4.1.f_deep (IntKind.i64.wrap (v4.1.f_in - 1))) (ByteArray.mk #[125]) >>= fun v5 =>
 some (v5, v4.2)))
noncomputable def z12 : Nat → z00 → Option (z00 × z0n)
  | 0, _ => none
  | n + 1, a0 => z0c a0 >>= fun v1 =>
 z04 v1.1 (ByteArray.mk #[40]) >>= fun v2 =>
 z0c v2 >>= fun v3 =>
 z04 v3.1 (ByteArray.mk #[41]) >>= fun v4 =>
 (z0f n) v4 >>= fun v5 =>
 some (v5.1, (z0n.mk v1.2 v3.2 v5.2))
end

noncomputable def z5g (a0 : z00) : Option (z00 × (List z02)) := unf fun n => z0x n a0

noncomputable def z2r (x1 : ((List z0b) × Int × Int × Int × Int × Int × (List ByteArray))) : Option (Sum ((List z0b) × Int × Int × Int × Int × Int × (List ByteArray)) (Sum (z00 × z2d) ((List z0b) × Int × Int × Int × Int × Int × (List ByteArray)))) :=
 z0d (z00.mk x1.1 x1.2.1 x1.2.2.1 x1.2.2.2.1 x1.2.2.2.2.1 x1.2.2.2.2.2.1) (ByteArray.mk #[118, 97, 114]) >>= fun v3 =>
 if v3.2 then (z0c v3.1 >>= fun v4 =>
 app 16 x1.2.2.2.2.2.2 [v4.2] >>= fun v5 =>
 z04 v4.1 (ByteArray.mk #[59]) >>= fun v6 =>
 some (.inl (v6.f_l, v6.f_end, v6.f_e, v6.f_at, v6.f_deep, v6.f_in, v5)))
 else (some (.inr (.inr (v3.1.f_l, v3.1.f_end, v3.1.f_e, v3.1.f_at, v3.1.f_deep, v3.1.f_in, x1.2.2.2.2.2.2))))

noncomputable def z5y (a0 : z00) : Option (z00 × z2d) :=
 z0c a0 >>= fun v1 =>
 z04 v1.1 (ByteArray.mk #[123]) >>= fun v2 =>
 iter (z2r) (v2.f_l, v2.f_end, v2.f_e, v2.f_at, v2.f_deep, v2.f_in, []) >>= Sum.elim (fun _ => none) (fun j1 =>
 z5g (z00.mk j1.1 j1.2.1 j1.2.2.1 j1.2.2.2.1 j1.2.2.2.2.1 j1.2.2.2.2.2.1) >>= fun v7 =>
 z04 v7.1 (ByteArray.mk #[125]) >>= fun v8 =>
 some (v8, (z2d.mk v1.2 j1.2.2.2.2.2.2 v7.2)))

def z8z (r : (z00 × z2d)) : List XV := [.agg (bs (z0m r.2))]

def z90 (r : (z00 × z2d)) : z0l := [oB 71 (bs (z01 r.1))]

noncomputable def zgi (r : (z00 × z2d)) : Tg := .r false Tryz.f23.results.toList 1 (z8z r) (z90 r)

noncomputable def z55 (x1 : ((List z0b) × Int × Int × Int × Int × Int × (List z24))) : Option (Sum ((List z0b) × Int × Int × Int × Int × Int × (List z24)) (Sum (z18 × Int × Int) ((List z0b) × Int × Int × Int × Int × Int × (List z24)))) :=
 z0d (z00.mk x1.1 x1.2.1 x1.2.2.1 x1.2.2.2.1 x1.2.2.2.2.1 x1.2.2.2.2.2.1) (ByteArray.mk #[99, 104, 97, 110]) >>= fun v2 =>
 if v2.2 then (z4v v2.1 >>= fun v3 =>
 app 88 x1.2.2.2.2.2.2 [v3.2] >>= fun v4 =>
 some (.inl (v3.1.f_l, v3.1.f_end, v3.1.f_e, v3.1.f_at, v3.1.f_deep, v3.1.f_in, v4)))
 else (some (.inr (.inr (v2.1.f_l, v2.1.f_end, v2.1.f_e, v2.1.f_at, v2.1.f_deep, v2.1.f_in, x1.2.2.2.2.2.2))))

noncomputable def z56 (x2 : ((List z0b) × Int × Int × Int × Int × Int × (List z2c))) : Option (Sum ((List z0b) × Int × Int × Int × Int × Int × (List z2c)) (Sum (z18 × Int × Int) ((List z0b) × Int × Int × Int × Int × Int × (List z2c)))) :=
 z0d (z00.mk x2.1 x2.2.1 x2.2.2.1 x2.2.2.2.1 x2.2.2.2.2.1 x2.2.2.2.2.2.1) (ByteArray.mk #[114, 117, 108, 101]) >>= fun v5 =>
 if v5.2 then (z5w v5.1 >>= fun v6 =>
 app 40 x2.2.2.2.2.2.2 [v6.2] >>= fun v7 =>
 some (.inl (v6.1.f_l, v6.1.f_end, v6.1.f_e, v6.1.f_at, v6.1.f_deep, v6.1.f_in, v7)))
 else (some (.inr (.inr (v5.1.f_l, v5.1.f_end, v5.1.f_e, v5.1.f_at, v5.1.f_deep, v5.1.f_in, x2.2.2.2.2.2.2))))

noncomputable def z4n (x3 : ((List z0b) × Int × Int × Int × Int × Int × (List z2d))) : Option (Sum ((List z0b) × Int × Int × Int × Int × Int × (List z2d)) (Sum (z18 × Int × Int) ((List z0b) × Int × Int × Int × Int × Int × (List z2d)))) :=
 z0d (z00.mk x3.1 x3.2.1 x3.2.2.1 x3.2.2.2.1 x3.2.2.2.2.1 x3.2.2.2.2.2.1) (ByteArray.mk #[112, 114, 111, 99]) >>= fun v8 =>
 if v8.2 then (z5y v8.1 >>= fun v9 =>
 app 64 x3.2.2.2.2.2.2 [v9.2] >>= fun v10 =>
 some (.inl (v9.1.f_l, v9.1.f_end, v9.1.f_e, v9.1.f_at, v9.1.f_deep, v9.1.f_in, v10)))
 else (some (.inr (.inr (v8.1.f_l, v8.1.f_end, v8.1.f_e, v8.1.f_at, v8.1.f_deep, v8.1.f_in, x3.2.2.2.2.2.2))))

noncomputable def z7r (a0 : ByteArray) : Option (z18 × Int × Int) :=
 zgf a0 >>= fun v1 =>
 if (v1.2.2 != 0) then (some ((z18.mk [] [] []), v1.2.1, v1.2.2))
 else (iter (z55) (v1.1, (a0.size : Int), 0, 0, 0, 0, []) >>= Sum.elim (fun _ => none) (fun j1 =>
 iter (z56) (j1.1, j1.2.1, j1.2.2.1, j1.2.2.2.1, j1.2.2.2.2.1, j1.2.2.2.2.2.1, []) >>= Sum.elim (fun _ => none) (fun j2 =>
 iter (z4n) (j2.1, j2.2.1, j2.2.2.1, j2.2.2.2.1, j2.2.2.2.2.1, j2.2.2.2.2.2.1, []) >>= Sum.elim (fun _ => none) (fun j3 =>
 if (decide ((j3.1.length : Int) > 0)) then (z1o (z00.mk j3.1 j3.2.1 j3.2.2.1 j3.2.2.2.1 j3.2.2.2.2.1 j3.2.2.2.2.2.1) 5 >>= fun v11 =>
 if (v11.f_e != 0) then (some ((z18.mk [] [] []), v11.f_at, v11.f_e))
 else (some ((z18.mk j1.2.2.2.2.2.2 j2.2.2.2.2.2.2 j3.2.2.2.2.2.2), 0, 0)))
 else (if (j3.2.2.1 != 0) then (some ((z18.mk [] [] []), j3.2.2.2.1, j3.2.2.1))
 else (some ((z18.mk j1.2.2.2.2.2.2 j2.2.2.2.2.2.2 j3.2.2.2.2.2.2), 0, 0)))))))

def z86 (r : (z18 × Int × Int)) : List XV := [.agg (bs (z97 r.1)), xI r.2.1, xI r.2.2]

def zhd (r : (z18 × Int × Int)) : z0l := []

noncomputable def zdy (r : (z18 × Int × Int)) : Tg := .r false Tryz.f9.results.toList 0 (z86 r) (zhd r)

noncomputable def zbq : Option Bool :=
 z7r (ByteArray.mk #[112, 114, 111, 99, 32, 112, 32, 123, 32, 120, 32, 61, 32, 49, 32, 43, 32, 50, 32, 42, 32, 51, 32, 59, 32, 125]) >>= fun v1 =>
 z7r (ByteArray.mk #[112, 114, 111, 99, 32, 112]) >>= fun v2 =>
 ((if (v1.2.2 == 0) then (if ((v1.1.Procs.length : Int) == 1) then (idx v1.1.Procs 0 >>= fun v3 =>
 if ((v3.Body.length : Int) == 1) then (idx v1.1.Procs 0 >>= fun v4 =>
 idx v4.Body 0 >>= fun v5 =>
 if (v5.E.Kind == 4) then (idx v1.1.Procs 0 >>= fun v6 =>
 idx v6.Body 0 >>= fun v7 =>
 if ((v7.E.Kids.length : Int) == 2) then (idx v1.1.Procs 0 >>= fun v8 =>
 idx v8.Body 0 >>= fun v9 =>
 idx v9.E.Kids 1 >>= fun v10 =>
 if (v10.Kind == 6) then (if (v2.2.2 == 5) then (some (v2.2.1 == 6))
 else (some false))
 else (some false))
 else (some false))
 else (some false))
 else (some false))
 else (some false))
 else (some false) : Option Bool) >>= fun j1 =>
 some j1)

def zb4 (r : Bool) : List XV := [xB r]

def zoa (r : Bool) : z0l := []

noncomputable def zam (F_l02_Expr : z09 → Option z03) (a0 : z09) (x1 : (Int × (List z03))) : Option (Sum (Int × (List z03)) (Sum z03 (List z03))) :=
 if (decide (x1.1 < (a0.Kids.length : Int))) then (idx a0.Kids x1.1 >>= fun v1 =>
 F_l02_Expr v1 >>= fun v2 =>
 app 56 x1.2 [v2] >>= fun v3 =>
 some (.inl ((IntKind.i64.wrap (x1.1 + 1)), v3)))
 else (some (.inr (.inr x1.2)))

def z7d (r : z03) : List XV := [.agg (bs (z2j r))]

def zlj (r : z03) : z0l := []

noncomputable def zu5 (r : z03) : Tg := .r false Tryz.f73.results.toList 0 (z7d r) (zlj r)

noncomputable def z8l : Nat → z09 → Option z03
  | 0, _ => none
  | n + 1, a0 => iter (zam (z8l n) a0) (0, []) >>= Sum.elim (fun _ => none) (fun j1 =>
 some (z03.mk a0.Kind a0.Num a0.Name j1))

noncomputable def zhe (a0 : z09) : Option z03 := unf fun n => z8l n a0

noncomputable def zhf (a0 : z3z) : Option z2n :=
 zhe a0.L >>= fun v1 =>
 zhe a0.R >>= fun v2 =>
 some (z2n.mk a0.Op v1 v2)

def zi6 (r : z2n) : List XV := [.agg (bs (zbo r))]

def zu6 (r : z2n) : z0l := []

noncomputable def z9q (F_l02_Stmts : (List z05) → Option (List z02)) (v1 : z05) (x2 : (Int × (List z0n))) : Option (Sum (Int × (List z0n)) (Sum (List z02) (List z0n))) :=
 if (decide (x2.1 < (v1.Arms.length : Int))) then (idx v1.Arms x2.1 >>= fun v6 =>
 F_l02_Stmts v6.Body >>= fun v7 =>
 app 56 x2.2 [(z0n.mk v6.Tag v6.Var v7)] >>= fun v8 =>
 some (.inl ((IntKind.i64.wrap (x2.1 + 1)), v8)))
 else (some (.inr (.inr x2.2)))

noncomputable def z9r (F_l02_Stmts : (List z05) → Option (List z02)) (a0 : (List z05)) (x1 : (Int × (List z02))) : Option (Sum (Int × (List z02)) (Sum (List z02) (List z02))) :=
 if (decide (x1.1 < (a0.length : Int))) then (idx a0 x1.1 >>= fun v1 =>
 zhe v1.E >>= fun v2 =>
 zhf v1.C >>= fun v3 =>
 F_l02_Stmts v1.Body >>= fun v4 =>
 F_l02_Stmts v1.Else >>= fun v5 =>
 iter (z9q F_l02_Stmts v1) (0, []) >>= Sum.elim (fun _ => none) (fun j2 =>
 app 288 x1.2 [(z02.mk v1.Kind v1.Name v1.Tag v2 v3 v4 v5 j2)] >>= fun v9 =>
 some (.inl ((IntKind.i64.wrap (x1.1 + 1)), v9))))
 else (some (.inr (.inr x1.2)))

def z6j (r : (List z02)) : List XV := [xL (List.map z0u r)]

def zk4 (r : (List z02)) : z0l := []

noncomputable def zk5 (r : (List z02)) : Tg := .r false Tryz.f43.results.toList 0 (z6j r) (zk4 r)

noncomputable def z6a : Nat → (List z05) → Option (List z02)
  | 0, _ => none
  | n + 1, a0 => iter (z9r (z6a n) a0) (0, []) >>= Sum.elim (fun _ => none) (fun j1 =>
 some j1)

noncomputable def zk6 (a0 : (List z05)) : Option (List z02) := unf fun n => z6a n a0

noncomputable def z87 (a0 : z16) (x1 : (Int × (List z24))) : Option (Sum (Int × (List z24)) (Sum z18 (List z24))) :=
 if (decide (x1.1 < (a0.Chans.length : Int))) then (idx a0.Chans x1.1 >>= fun v1 =>
 app 16 [] v1.Tags >>= fun v2 =>
 app 88 x1.2 [(z24.mk v1.Name v1.Kind v1.Size v1.From v1.To v2)] >>= fun v3 =>
 some (.inl ((IntKind.i64.wrap (x1.1 + 1)), v3)))
 else (some (.inr (.inr x1.2)))

noncomputable def z88 (a0 : z16) (x2 : (Int × (List z2c))) (x3 : (Int × (List z35))) : Option (Sum (Int × (List z35)) (Sum z18 (List z35))) :=
 idx a0.Rules x2.1 >>= fun v5 =>
 if (decide (x3.1 < (v5.Moves.length : Int))) then (idx a0.Rules x2.1 >>= fun v6 =>
 idx v6.Moves x3.1 >>= fun v7 =>
 app 32 x3.2 [(z35.mk v7.From v7.Tag v7.To)] >>= fun v8 =>
 some (.inl ((IntKind.i64.wrap (x3.1 + 1)), v8)))
 else (some (.inr (.inr x3.2)))

noncomputable def z89 (a0 : z16) (x2 : (Int × (List z2c))) : Option (Sum (Int × (List z2c)) (Sum z18 (List z2c))) :=
 if (decide (x2.1 < (a0.Rules.length : Int))) then (idx a0.Rules x2.1 >>= fun v4 =>
 iter (z88 a0 x2) (0, []) >>= Sum.elim (fun _ => none) (fun j3 =>
 app 40 x2.2 [(z2c.mk v4.Chan j3)] >>= fun v9 =>
 some (.inl ((IntKind.i64.wrap (x2.1 + 1)), v9))))
 else (some (.inr (.inr x2.2)))

noncomputable def z8a (a0 : z16) (x4 : (Int × (List z2d))) : Option (Sum (Int × (List z2d)) (Sum z18 (List z2d))) :=
 if (decide (x4.1 < (a0.Procs.length : Int))) then (idx a0.Procs x4.1 >>= fun v10 =>
 app 16 [] v10.Vars >>= fun v11 =>
 zk6 v10.Body >>= fun v12 =>
 app 64 x4.2 [(z2d.mk v10.Name v11 v12)] >>= fun v13 =>
 some (.inl ((IntKind.i64.wrap (x4.1 + 1)), v13)))
 else (some (.inr (.inr x4.2)))

noncomputable def zd3 (a0 : z16) : Option z18 :=
 iter (z87 a0) (0, []) >>= Sum.elim (fun _ => none) (fun j1 =>
 iter (z89 a0) (0, []) >>= Sum.elim (fun _ => none) (fun j2 =>
 iter (z8a a0) (0, []) >>= Sum.elim (fun _ => none) (fun j4 =>
 some (z18.mk j1 j2 j4))))

def zci (r : z18) : List XV := [.agg (bs (z97 r))]

def zin (r : z18) : z0l := []

noncomputable def zcj (r : z18) : Tg := .r false Tryz.f13.results.toList 0 (zci r) (zin r)

noncomputable def z9s (a0 : (List z35)) (a1 : (List z35)) (x1 : Int) : Option (Sum Int (Sum Bool Unit)) :=
 if (decide (x1 < (a0.length : Int))) then (idx a0 x1 >>= fun v1 =>
 idx a1 x1 >>= fun v2 =>
 if (!((v1.From : Int) == v2.From && (v1.Tag.toList == v2.Tag.toList && ((v1.To : Int) == v2.To && true)))) then (some (.inr (.inl false)))
 else (some (.inl (IntKind.i64.wrap (x1 + 1)))))
 else (some (.inr (.inr ())))

noncomputable def zes (a0 : (List z35)) (a1 : (List z35)) : Option Bool :=
 if ((a0.length : Int) != (a1.length : Int)) then (some false)
 else (iter (z9s a0 a1) 0 >>= Sum.elim (fun r => some r) (fun j1 =>
 some true))

def zdz (r : Bool) : List XV := [xB r]

def zk7 (r : Bool) : z0l := []

noncomputable def zq4 (r : Bool) : Tg := .r false Tryz.f35.results.toList 0 (zdz r) (zk7 r)

noncomputable def zfi (a0 : z2c) (a1 : z2c) : Option Bool :=
 if (a0.Chan.toList == a1.Chan.toList) then (zes a0.Moves a1.Moves >>= fun v1 =>
 some v1)
 else (some false)

def zet (r : Bool) : List XV := [xB r]

def zob (r : Bool) : z0l := []

noncomputable def z4b (a0 : (List z2c)) (a1 : (List z2c)) (x1 : Int) : Option (Sum Int (Sum Bool Unit)) :=
 if (decide (x1 < (a0.length : Int))) then (idx a0 x1 >>= fun v1 =>
 idx a1 x1 >>= fun v2 =>
 zfi v1 v2 >>= fun v3 =>
 if (!v3) then (some (.inr (.inl false)))
 else (some (.inl (IntKind.i64.wrap (x1 + 1)))))
 else (some (.inr (.inr ())))

noncomputable def z5n (a0 : (List z2c)) (a1 : (List z2c)) : Option Bool :=
 if ((a0.length : Int) != (a1.length : Int)) then (some false)
 else (iter (z4b a0 a1) 0 >>= Sum.elim (fun r => some r) (fun j1 =>
 some true))

def z63 (r : Bool) : List XV := [xB r]

def zaa (r : Bool) : z0l := []

noncomputable def ze9 (r : Bool) : Tg := .r false Tryz.f33.results.toList 0 (z63 r) (zaa r)

noncomputable def z34 (a0 : (List ByteArray)) (a1 : (List ByteArray)) (x1 : Int) : Option (Sum Int (Sum Bool Unit)) :=
 if (decide (x1 < (a0.length : Int))) then (idx a0 x1 >>= fun v1 =>
 idx a1 x1 >>= fun v2 =>
 if (!(v1.toList == v2.toList)) then (some (.inr (.inl false)))
 else (some (.inl (IntKind.i64.wrap (x1 + 1)))))
 else (some (.inr (.inr ())))

noncomputable def z3n (a0 : (List ByteArray)) (a1 : (List ByteArray)) : Option Bool :=
 if ((a0.length : Int) != (a1.length : Int)) then (some false)
 else (iter (z34 a0 a1) 0 >>= Sum.elim (fun r => some r) (fun j1 =>
 some true))

def z38 (r : Bool) : List XV := [xB r]

def z79 (r : Bool) : z0l := []

noncomputable def zb8 (r : Bool) : Tg := .r false Tryz.f38.results.toList 0 (z38 r) (z79 r)

def z47 (r : Bool) : List XV := [xB r]

def zkr (r : Bool) : z0l := []

noncomputable def z3u (F_ast_sameExpr : z03 → z03 → Option Bool) (F_ast_Expr__ast_sameExpr : (List z03) → (List z03) → Option Bool) (a0 : (List z03)) (a1 : (List z03)) (x1 : Int) : Option (Sum Int (Sum Bool Unit)) :=
 if (decide (x1 < (a0.length : Int))) then (idx a0 x1 >>= fun v1 =>
 idx a1 x1 >>= fun v2 =>
 F_ast_sameExpr v1 v2 >>= fun v3 =>
 if (!v3) then (some (.inr (.inl false)))
 else (some (.inl (IntKind.i64.wrap (x1 + 1)))))
 else (some (.inr (.inr ())))

def z3o (r : Bool) : List XV := [xB r]

def z9t (r : Bool) : z0l := []

noncomputable def zd4 (r : Bool) : Tg := .r false Tryz.f101.results.toList 0 (z3o r) (z9t r)

mutual
noncomputable def z4c : Nat → z03 → z03 → Option Bool
  | 0, _, _ => none
  | n + 1, a0, a1 => ((if (a0.Kind != a1.Kind) then (some true)
 else (if (a0.Kind == 1) then (if (a0.Num != a1.Num) then (some true)
 else (if (a0.Kind == 2) then (some (!(a0.Name.toList == a1.Name.toList)))
 else (some false)))
 else (if (a0.Kind == 2) then (some (!(a0.Name.toList == a1.Name.toList)))
 else (some false))) : Option Bool) >>= fun j1 =>
 if j1 then (some false)
 else ((z1r n) a0.Kids a1.Kids >>= fun v1 =>
 some v1))
noncomputable def z1r : Nat → (List z03) → (List z03) → Option Bool
  | 0, _, _ => none
  | n + 1, a0, a1 => if ((a0.length : Int) != (a1.length : Int)) then (some false)
 else (iter (z3u (z4c n) (z1r n) a0 a1) 0 >>= Sum.elim (fun r => some r) (fun j1 =>
 some true))
end

noncomputable def z9u (a0 : z03) (a1 : z03) : Option Bool := unf fun n => z4c n a0 a1

noncomputable def z7s (a0 : z2n) (a1 : z2n) : Option Bool :=
 if (a0.Op == a1.Op) then (z9u a0.L a1.L >>= fun v1 =>
 if v1 then (z9u a0.R a1.R >>= fun v2 =>
 some v2)
 else (some false))
 else (some false)

def z5s (r : Bool) : List XV := [xB r]

def zks (r : Bool) : z0l := []

noncomputable def z3v (F_ast_Stmt__ast_sameStmt : (List z02) → (List z02) → Option Bool) (F_ast_sameStmt : z02 → z02 → Option Bool) (F_ast_Arm__ast_sameArm : (List z0n) → (List z0n) → Option Bool) (F_ast_sameArm : z0n → z0n → Option Bool) (a0 : (List z02)) (a1 : (List z02)) (x1 : Int) : Option (Sum Int (Sum Bool Unit)) :=
 if (decide (x1 < (a0.length : Int))) then (idx a0 x1 >>= fun v1 =>
 idx a1 x1 >>= fun v2 =>
 F_ast_sameStmt v1 v2 >>= fun v3 =>
 if (!v3) then (some (.inr (.inl false)))
 else (some (.inl (IntKind.i64.wrap (x1 + 1)))))
 else (some (.inr (.inr ())))

def z17 (r : Bool) : List XV := [xB r]

def z9v (r : Bool) : z0l := []

noncomputable def zd5 (r : Bool) : Tg := .r false Tryz.f39.results.toList 0 (z17 r) (z9v r)

def z5t (r : Bool) : List XV := [xB r]

def zkt (r : Bool) : z0l := []

noncomputable def z4d (F_ast_Stmt__ast_sameStmt : (List z02) → (List z02) → Option Bool) (F_ast_sameStmt : z02 → z02 → Option Bool) (F_ast_Arm__ast_sameArm : (List z0n) → (List z0n) → Option Bool) (F_ast_sameArm : z0n → z0n → Option Bool) (a0 : (List z0n)) (a1 : (List z0n)) (x1 : Int) : Option (Sum Int (Sum Bool Unit)) :=
 if (decide (x1 < (a0.length : Int))) then (idx a0 x1 >>= fun v1 =>
 idx a1 x1 >>= fun v2 =>
 F_ast_sameArm v1 v2 >>= fun v3 =>
 if (!v3) then (some (.inr (.inl false)))
 else (some (.inl (IntKind.i64.wrap (x1 + 1)))))
 else (some (.inr (.inr ())))

def z32 (r : Bool) : List XV := [xB r]

def zab (r : Bool) : z0l := []

noncomputable def zea (r : Bool) : Tg := .r false Tryz.f71.results.toList 0 (z32 r) (zab r)

def z6f (r : Bool) : List XV := [xB r]

def zmb (r : Bool) : z0l := []

mutual
noncomputable def z0s : Nat → (List z02) → (List z02) → Option Bool
  | 0, _, _ => none
  | n + 1, a0, a1 => if ((a0.length : Int) != (a1.length : Int)) then (some false)
 else (iter (z3v (z0s n) (z33 n) (z19 n) (z3p n) a0 a1) 0 >>= Sum.elim (fun r => some r) (fun j1 =>
 some true))
noncomputable def z33 : Nat → z02 → z02 → Option Bool
  | 0, _, _ => none
  | n + 1, a0, a1 => if (a0.Kind != a1.Kind) then (some false)
 else (if (a0.Kind == 1) then (((if (a0.Name.toList == a1.Name.toList) then (z9u a0.E a1.E >>= fun v1 =>
 some v1)
 else (some false) : Option Bool) >>= fun j1 =>
 some j1))
 else (if (a0.Kind == 2) then (((z7s a0.C a1.C >>= fun v2 =>
 if v2 then ((z0s n) a0.Body a1.Body >>= fun v3 =>
 if v3 then ((z0s n) a0.Else a1.Else >>= fun v4 =>
 some v4)
 else (some false))
 else (some false) : Option Bool) >>= fun j2 =>
 some j2))
 else (if (a0.Kind == 3) then (((z7s a0.C a1.C >>= fun v5 =>
 if v5 then ((z0s n) a0.Body a1.Body >>= fun v6 =>
 some v6)
 else (some false) : Option Bool) >>= fun j3 =>
 some j3))
 else (if (a0.Kind == 4) then (((if (a0.Name.toList == a1.Name.toList) then (if (a0.Tag.toList == a1.Tag.toList) then (z9u a0.E a1.E >>= fun v7 =>
 some v7)
 else (some false))
 else (some false) : Option Bool) >>= fun j4 =>
 some j4))
 else (if (a0.Kind == 5) then (((if (a0.Name.toList == a1.Name.toList) then ((z19 n) a0.Arms a1.Arms >>= fun v8 =>
 some v8)
 else (some false) : Option Bool) >>= fun j5 =>
 some j5))
 else (if (a0.Kind == 6) then (z7s a0.C a1.C >>= fun v9 =>
 some v9)
 else (if (a0.Kind == 7) then (some (a0.Name.toList == a1.Name.toList))
 else (some true))))))))
noncomputable def z19 : Nat → (List z0n) → (List z0n) → Option Bool
  | 0, _, _ => none
  | n + 1, a0, a1 => if ((a0.length : Int) != (a1.length : Int)) then (some false)
 else (iter (z4d (z0s n) (z33 n) (z19 n) (z3p n) a0 a1) 0 >>= Sum.elim (fun r => some r) (fun j1 =>
 some true))
noncomputable def z3p : Nat → z0n → z0n → Option Bool
  | 0, _, _ => none
  | n + 1, a0, a1 => if (a0.Tag.toList == a1.Tag.toList) then (if (a0.Var.toList == a1.Var.toList) then ((z0s n) a0.Body a1.Body >>= fun v1 =>
 some v1)
 else (some false))
 else (some false)
end

noncomputable def z7i (a0 : (List z02)) (a1 : (List z02)) : Option Bool := unf fun n => z0s n a0 a1

noncomputable def zfj (a0 : z2d) (a1 : z2d) : Option Bool :=
 if (a0.Name.toList == a1.Name.toList) then (z3n a0.Vars a1.Vars >>= fun v1 =>
 if v1 then (z7i a0.Body a1.Body >>= fun v2 =>
 some v2)
 else (some false))
 else (some false)

def zeu (r : Bool) : List XV := [xB r]

def zoc (r : Bool) : z0l := []

noncomputable def z4e (a0 : (List z2d)) (a1 : (List z2d)) (x1 : Int) : Option (Sum Int (Sum Bool Unit)) :=
 if (decide (x1 < (a0.length : Int))) then (idx a0 x1 >>= fun v1 =>
 idx a1 x1 >>= fun v2 =>
 zfj v1 v2 >>= fun v3 =>
 if (!v3) then (some (.inr (.inl false)))
 else (some (.inl (IntKind.i64.wrap (x1 + 1)))))
 else (some (.inr (.inr ())))

noncomputable def z5o (a0 : (List z2d)) (a1 : (List z2d)) : Option Bool :=
 if ((a0.length : Int) != (a1.length : Int)) then (some false)
 else (iter (z4e a0 a1) 0 >>= Sum.elim (fun r => some r) (fun j1 =>
 some true))

def z64 (r : Bool) : List XV := [xB r]

def zac (r : Bool) : z0l := []

noncomputable def zeb (r : Bool) : Tg := .r false Tryz.f36.results.toList 0 (z64 r) (zac r)

noncomputable def zck (a0 : z24) (a1 : z24) : Option Bool :=
 ((if (a0.Name.toList == a1.Name.toList) then (if (a0.Kind == a1.Kind) then (if (a0.Size == a1.Size) then (if (a0.From.toList == a1.From.toList) then (if (a0.To.toList == a1.To.toList) then (z3n a0.Tags a1.Tags >>= fun v1 =>
 some v1)
 else (some false))
 else (some false))
 else (some false))
 else (some false))
 else (some false) : Option Bool) >>= fun j1 =>
 some j1)

def zcr (r : Bool) : List XV := [xB r]

def zku (r : Bool) : z0l := []

noncomputable def z3w (a0 : (List z24)) (a1 : (List z24)) (x1 : Int) : Option (Sum Int (Sum Bool Unit)) :=
 if (decide (x1 < (a0.length : Int))) then (idx a0 x1 >>= fun v1 =>
 idx a1 x1 >>= fun v2 =>
 zck v1 v2 >>= fun v3 =>
 if (!v3) then (some (.inr (.inl false)))
 else (some (.inl (IntKind.i64.wrap (x1 + 1)))))
 else (some (.inr (.inr ())))

noncomputable def z50 (a0 : (List z24)) (a1 : (List z24)) : Option Bool :=
 if ((a0.length : Int) != (a1.length : Int)) then (some false)
 else (iter (z3w a0 a1) 0 >>= Sum.elim (fun r => some r) (fun j1 =>
 some true))

def z5h (r : Bool) : List XV := [xB r]

def z9w (r : Bool) : z0l := []

noncomputable def zd6 (r : Bool) : Tg := .r false Tryz.f41.results.toList 0 (z5h r) (z9w r)

noncomputable def zhg (a0 : z18) (a1 : z18) : Option Bool :=
 z5n a0.Rules a1.Rules >>= fun v1 =>
 z5o a0.Procs a1.Procs >>= fun v2 =>
 if v1 then (if v2 then (z50 a0.Chans a1.Chans >>= fun v3 =>
 some v3)
 else (some false))
 else (some false)

def zi7 (r : Bool) : List XV := [xB r]

def zu7 (r : Bool) : z0l := []

noncomputable def z4g (a1 : (List Int)) (v1 : ((List ByteArray) × Int)) (x2 : (ByteArray × Int)) : Option (Sum (ByteArray × Int) (Sum Bool ByteArray)) :=
 if (decide (x2.2 < (v1.1.length : Int))) then (((if (decide (x2.2 < (a1.length : Int))) then (idx a1 x2.2 >>= fun v4 =>
 idx v1.1 x2.2 >>= fun v5 =>
 scat x2.1 v5 >>= fun v6 =>
 rem v4 4 >>= fun v7 =>
 idx [(ByteArray.mk #[32]), (ByteArray.mk #[10]), (ByteArray.mk #[32, 32]), (ByteArray.mk #[32, 10, 32])] v7 >>= fun v8 =>
 scat v6 v8 >>= fun v9 =>
 some v9)
 else (idx v1.1 x2.2 >>= fun v10 =>
 scat x2.1 v10 >>= fun v11 =>
 rem 0 4 >>= fun v12 =>
 idx [(ByteArray.mk #[32]), (ByteArray.mk #[10]), (ByteArray.mk #[32, 32]), (ByteArray.mk #[32, 10, 32])] v12 >>= fun v13 =>
 scat v11 v13 >>= fun v14 =>
 some v14) : Option ByteArray) >>= fun j3 =>
 some (.inl (j3, (IntKind.i64.wrap (x2.2 + 1))))))
 else (some (.inr (.inr x2.1)))

noncomputable def za3 (a0 : z16) (a1 : (List Int)) : Option Bool :=
 zeq a0 >>= fun v1 =>
 ((zbq >>= fun v2 =>
 if (!v2) then (some true)
 else (some (v1.2 != 0)) : Option Bool) >>= fun j1 =>
 if j1 then (zbq >>= fun v3 =>
 some v3)
 else (iter (z4g a1 v1) ((ByteArray.mk #[]), 0) >>= Sum.elim (fun _ => none) (fun j2 =>
 z7r j2 >>= fun v15 =>
 if (v15.2.2 == 0) then (zd3 a0 >>= fun v16 =>
 zhg v15.1 v16 >>= fun v17 =>
 some v17)
 else (some false))))

def zan (r : Bool) : List XV := [xB r]

def zd7 (r : Bool) : z0l := []

noncomputable def zi8 (r : Bool) : Tg := .r false Tryz.f7.results.toList 0 (zan r) (zd7 r)
end Go.Proofs.YtokjbpmjdcbogaaGreatDoor.Abs
