/- Gw: the functions, told by typed values. -/
import Derived.Test.YtokjbpmjdcbogaaDoorHandA
import Derived.Test.YtokjbpmjdcbogaaDoorProg
namespace Go.Proofs.YtokjbpmjdcbogaaDoor.Abs
open Go Go.RowKit
set_option linter.unusedVariables false

structure z2y where
 Name : ByteArray
 Kind : Int
 Size : Int
 From : ByteArray
 To : ByteArray
 Tags : (List ByteArray)
structure z47 where
 From : Int
 Tag : ByteArray
 To : Int
structure z3h where
 Chan : ByteArray
 Moves : (List z47)
structure z03 where
 Kind : Int
 Num : Int
 Name : ByteArray
 Kids : (List z03)
structure z3p where
 Op : Int
 L : z03
 R : z03
mutual
inductive z27 where
 | mk (Tag : ByteArray) (Var : ByteArray) (Body : (List z04))
inductive z04 where
 | mk (Kind : Int) (Name : ByteArray) (Tag : ByteArray) (E : z03) (C : z3p) (Body : (List z04)) (Else : (List z04)) (Arms : (List z27))
end
def z27.Tag : z27 → ByteArray
 | .mk x _ _ => x
def z27.Var : z27 → ByteArray
 | .mk _ x _ => x
def z27.Body : z27 → (List z04)
 | .mk _ _ x => x
def z04.Kind : z04 → Int
 | .mk x _ _ _ _ _ _ _ => x
def z04.Name : z04 → ByteArray
 | .mk _ x _ _ _ _ _ _ => x
def z04.Tag : z04 → ByteArray
 | .mk _ _ x _ _ _ _ _ => x
def z04.E : z04 → z03
 | .mk _ _ _ x _ _ _ _ => x
def z04.C : z04 → z3p
 | .mk _ _ _ _ x _ _ _ => x
def z04.Body : z04 → (List z04)
 | .mk _ _ _ _ _ x _ _ => x
def z04.Else : z04 → (List z04)
 | .mk _ _ _ _ _ _ x _ => x
def z04.Arms : z04 → (List z27)
 | .mk _ _ _ _ _ _ _ x => x
structure z3i where
 Name : ByteArray
 Vars : (List ByteArray)
 Body : (List z04)
structure z07 where
 Kind : Int
 Text : ByteArray
 Num : Int
 At : Int
def z4k (x : ByteArray) : List PV := [.str x]
structure z2h where
 Chans : (List z2y)
 Rules : (List z3h)
 Procs : (List z3i)
def z14 (x : z07) : List PV := [.int .i64 x.Kind, .str x.Text, .int .i64 x.Num, .int .i64 x.At]
structure z00 where
 f_l : (List z07)
 f_end : Int
 f_e : Int
 f_at : Int
 f_deep : Int
 f_in : Int
def z01 (x : z00) : List PV := [.sl (List.map z14 x.f_l), .int .i64 x.f_end, .int .i64 x.f_e, .int .i64 x.f_at, .int .i64 x.f_deep, .int .i64 x.f_in]
def z4f (x : z2y) : List PV := [.str x.Name, .int .i64 x.Kind, .int .i64 x.Size, .str x.From, .str x.To, .sl (List.map z4k x.Tags)]
def z6c (x : z47) : List PV := [.int .i64 x.From, .str x.Tag, .int .i64 x.To]
def z5k (x : z3h) : List PV := [.str x.Chan, .sl (List.map z6c x.Moves)]
mutual
def z1p : z03 → List PV
 | .mk z_Kind z_Num z_Name z_Kids => [.int .i64 z_Kind, .int .i64 z_Num, .str z_Name, .sl (z6r z_Kids)]
def z6r : List z03 → List (List PV)
 | [] => []
 | x :: xs => z1p x :: z6r xs
end
theorem z7n : ∀ l, z6r l = List.map z1p l
 | [] => rfl
 | x :: xs => by rw [z6r, z7n xs]; rfl
theorem z40 (x : z03) : z1p x = [.int .i64 x.Kind, .int .i64 x.Num, .str x.Name, .sl (List.map z1p x.Kids)] := by
 cases x; rw [z1p, z7n]
mutual
def z3a : z27 → List PV
 | .mk z_Tag z_Var z_Body => [.str z_Tag, .str z_Var, .sl (z4n z_Body)]
def z6h : List z27 → List (List PV)
 | [] => []
 | x :: xs => z3a x :: z6h xs
def z28 : z04 → List PV
 | .mk z_Kind z_Name z_Tag z_E z_C z_Body z_Else z_Arms => [.int .i64 z_Kind, .str z_Name, .str z_Tag, .int .i64 z_E.Kind, .int .i64 z_E.Num, .str z_E.Name, .sl (List.map z1p z_E.Kids), .int .i64 z_C.Op, .int .i64 z_C.L.Kind, .int .i64 z_C.L.Num, .str z_C.L.Name, .sl (List.map z1p z_C.L.Kids), .int .i64 z_C.R.Kind, .int .i64 z_C.R.Num, .str z_C.R.Name, .sl (List.map z1p z_C.R.Kids), .sl (z4n z_Body), .sl (z4n z_Else), .sl (z6h z_Arms)]
def z4n : List z04 → List (List PV)
 | [] => []
 | x :: xs => z28 x :: z4n xs
end
theorem z8f : ∀ l, z6h l = List.map z3a l
 | [] => by rw [z6h]; rfl
 | x :: xs => by rw [z6h, z8f xs]; rfl
theorem z6i : ∀ l, z4n l = List.map z28 l
 | [] => by rw [z4n]; rfl
 | x :: xs => by rw [z4n, z6i xs]; rfl
theorem z7o (x : z27) : z3a x = [.str x.Tag, .str x.Var, .sl (List.map z28 x.Body)] := by
 cases x; rw [z3a]; simp only [z6i]; first | done | rfl
theorem z9d (x : z27) : (z3a x).length = 3 := by rw [z7o]; rfl
theorem z2i (x : z04) : z28 x = [.int .i64 x.Kind, .str x.Name, .str x.Tag, .int .i64 x.E.Kind, .int .i64 x.E.Num, .str x.E.Name, .sl (List.map z1p x.E.Kids), .int .i64 x.C.Op, .int .i64 x.C.L.Kind, .int .i64 x.C.L.Num, .str x.C.L.Name, .sl (List.map z1p x.C.L.Kids), .int .i64 x.C.R.Kind, .int .i64 x.C.R.Num, .str x.C.R.Name, .sl (List.map z1p x.C.R.Kids), .sl (List.map z28 x.Body), .sl (List.map z28 x.Else), .sl (List.map z3a x.Arms)] := by
 cases x; rw [z28]; simp only [z8f, z6i]; first | done | rfl
theorem zb4 (x : z04) : (z28 x).length = 19 := by rw [z2i]; rfl

def zgt (x : z3p) : List PV := [.int .i64 x.Op, .int .i64 x.L.Kind, .int .i64 x.L.Num, .str x.L.Name, .sl (List.map z1p x.L.Kids), .int .i64 x.R.Kind, .int .i64 x.R.Num, .str x.R.Name, .sl (List.map z1p x.R.Kids)]
def z0v (x : z3i) : List PV := [.str x.Name, .sl (List.map z4k x.Vars), .sl (List.map z28 x.Body)]
def zd5 (x : z2h) : List PV := [.sl (List.map z4f x.Chans), .sl (List.map z5k x.Rules), .sl (List.map z0v x.Procs)]

def z3j (x : z03) : List PV := [.int .i64 x.Kind, .int .i64 x.Num, .str x.Name, .sl (List.map z1p x.Kids)]
def z2j (x : z04) : List PV := [.int .i64 x.Kind, .str x.Name, .str x.Tag, .int .i64 x.E.Kind, .int .i64 x.E.Num, .str x.E.Name, .sl (List.map z1p x.E.Kids), .int .i64 x.C.Op, .int .i64 x.C.L.Kind, .int .i64 x.C.L.Num, .str x.C.L.Name, .sl (List.map z1p x.C.L.Kids), .int .i64 x.C.R.Kind, .int .i64 x.C.R.Num, .str x.C.R.Name, .sl (List.map z1p x.C.R.Kids), .sl (List.map z28 x.Body), .sl (List.map z28 x.Else), .sl (List.map z3a x.Arms)]
def zio (x : z27) : List PV := [.str x.Tag, .str x.Var, .sl (List.map z28 x.Body)]
noncomputable def z6d (a0 : Int) : Option Bool :=
 if (decide (a0 ≥ 97)) then (some (decide (a0 ≤ 122)))
 else (some false)

def z5x (r : Bool) : List XV := [xB r]

def zd6 (r : Bool) : z0q := []

noncomputable def z70 (a0 : Int) : Option Bool :=
 if (decide (a0 ≥ 48)) then (some (decide (a0 ≤ 57)))
 else (some false)

def z78 (r : Bool) : List XV := [xB r]

def ze6 (r : Bool) : z0q := []

noncomputable def z5q (a0 : ByteArray) (x1 : Int) : Option (Sum Int (Sum Int Int)) :=
 ((if (decide (x1 < (a0.size : Int))) then (bidx a0 x1 >>= fun v1 =>
 z6d v1 >>= fun v2 =>
 if v2 then (some true)
 else (bidx a0 x1 >>= fun v3 =>
 z70 v3 >>= fun v4 =>
 some v4))
 else (some false) : Option Bool) >>= fun j2 =>
 if j2 then (some (.inl (IntKind.i64.wrap (x1 + 1))))
 else (some (.inr (.inr x1))))

noncomputable def z9u (a0 : ByteArray) : Option Int :=
 iter (z5q a0) 0 >>= Sum.elim (fun _ => none) (fun j1 =>
 some j1)

def z7p (r : Int) : List XV := [xI r]

def zd7 (r : Int) : z0q := []

noncomputable def zip (r : Int) : Tg := .r false Tryd.f21.results.toList 0 (z7p r) (zd7 r)

noncomputable def z5y (a0 : ByteArray) : Option Bool :=
 if (a0.toList == (ByteArray.mk #[99, 104, 97, 110]).toList) then (some true)
 else (if (a0.toList == (ByteArray.mk #[98, 108, 111, 99, 107]).toList) then (some true)
 else (if (a0.toList == (ByteArray.mk #[100, 114, 111, 112]).toList) then (some true)
 else (if (a0.toList == (ByteArray.mk #[108, 111, 115, 115, 121]).toList) then (some true)
 else (if (a0.toList == (ByteArray.mk #[102, 114, 111, 109]).toList) then (some true)
 else (if (a0.toList == (ByteArray.mk #[116, 111]).toList) then (some true)
 else (if (a0.toList == (ByteArray.mk #[114, 117, 108, 101]).toList) then (some true)
 else (if (a0.toList == (ByteArray.mk #[112, 114, 111, 99]).toList) then (some true)
 else (if (a0.toList == (ByteArray.mk #[118, 97, 114]).toList) then (some true)
 else (if (a0.toList == (ByteArray.mk #[105, 102]).toList) then (some true)
 else (if (a0.toList == (ByteArray.mk #[101, 108, 115, 101]).toList) then (some true)
 else (if (a0.toList == (ByteArray.mk #[119, 104, 105, 108, 101]).toList) then (some true)
 else (if (a0.toList == (ByteArray.mk #[115, 101, 110, 100]).toList) then (some true)
 else (if (a0.toList == (ByteArray.mk #[114, 101, 99, 118]).toList) then (some true)
 else (if (a0.toList == (ByteArray.mk #[97, 115, 115, 101, 114, 116]).toList) then (some true)
 else (if (a0.toList == (ByteArray.mk #[105, 110, 112, 117, 116]).toList) then (some true)
 else (some false))))))))))))))))

def z6x (r : Bool) : List XV := [xB r]

def zb5 (r : Bool) : z0q := []

noncomputable def z71 (a0 : ByteArray) : Option (z07 × Int) :=
 if (decide ((a0.size : Int) > 12)) then (some ((z07.mk 0 (ByteArray.mk #[]) 0 0), 3))
 else (z5y a0 >>= fun v1 =>
 if v1 then (some ((z07.mk 4 a0 0 0), 0))
 else (some ((z07.mk 1 a0 0 0), 0)))

def z8p (r : (z07 × Int)) : List XV := [.agg (bs (z14 r.1)), xI r.2]

def ze7 (r : (z07 × Int)) : z0q := []

def zfp (r : (Int × Int)) : List XV := [xI r.1, xI r.2]

def ze8 (r : Int) : List XV := [xI r]

noncomputable def z9e (a0 : ByteArray) : Option Int :=
 ((if (decide ((a0.size : Int) > 1)) then (bidx a0 1 >>= fun v1 =>
 if (v1 == 61) then (bidx a0 0 >>= fun v2 =>
 ze9 (ByteArray.mk #[61, 33, 60, 62]) v2 >>= fun v3 =>
 some (decide (v3 ≥ 0)))
 else (some false))
 else (some false) : Option Bool) >>= fun j1 =>
 if j1 then (some 2)
 else (bidx a0 0 >>= fun v4 =>
 ze9 (ByteArray.mk #[123, 125, 40, 41, 59, 44, 46, 61, 60, 62, 43, 45, 42, 47, 37]) v4 >>= fun v5 =>
 if (decide (v5 ≥ 0)) then (some 1)
 else (some 0)))

def z9v (r : Int) : List XV := [xI r]

def zgu (r : Int) : z0q := []

noncomputable def z79 (a0 : ByteArray) : Option (z07 × Int) :=
 bidx a0 0 >>= fun v1 =>
 z6d v1 >>= fun v2 =>
 if v2 then (z9u a0 >>= fun v3 =>
 ssub a0 0 v3 >>= fun v4 =>
 z71 v4 >>= fun v5 =>
 some (v5.1, v5.2))
 else (bidx a0 0 >>= fun v6 =>
 z70 v6 >>= fun v7 =>
 if v7 then (z9u a0 >>= fun v8 =>
 ssub a0 0 v8 >>= fun v9 =>
 zaw v9 >>= fun v10 =>
 some ((z07.mk 2 v9 v10.1 0), v10.2))
 else (z9e a0 >>= fun v11 =>
 if (v11 == 0) then (some ((z07.mk 0 (ByteArray.mk #[]) 0 0), 2))
 else (ssub a0 0 v11 >>= fun v12 =>
 some ((z07.mk 3 v12 0 0), 0))))

def z9w (r : (z07 × Int)) : List XV := [.agg (bs (z14 r.1)), xI r.2]

def zgv (r : (z07 × Int)) : z0q := []

noncomputable def z5r (a0 : ByteArray) (x1 : (Int × (List z07))) : Option (Sum (Int × (List z07)) (Sum ((List z07) × Int × Int) (List z07))) :=
 if (decide (x1.1 < (a0.size : Int))) then (((bidx a0 x1.1 >>= fun v1 =>
 if (v1 == 32) then (some true)
 else (bidx a0 x1.1 >>= fun v2 =>
 some (v2 == 10)) : Option Bool) >>= fun j2 =>
 if j2 then (some (.inl ((IntKind.i64.wrap (x1.1 + 1)), x1.2)))
 else (ssub a0 x1.1 (a0.size : Int) >>= fun v3 =>
 z79 v3 >>= fun v4 =>
 if (v4.2 != 0) then (some (.inr (.inl ([], x1.1, v4.2))))
 else (app 40 x1.2 [(z07.mk v4.1.Kind v4.1.Text v4.1.Num x1.1)] >>= fun v5 =>
 some (.inl ((IntKind.i64.wrap (x1.1 + (v4.1.Text.size : Int))), v5))))))
 else (some (.inr (.inr x1.2)))

noncomputable def z8q (a0 : ByteArray) : Option ((List z07) × Int × Int) :=
 iter (z5r a0) (0, []) >>= Sum.elim (fun r => some r) (fun j1 =>
 if (decide ((j1.length : Int) > 2000)) then (some ([], (a0.size : Int), 4))
 else (some (j1, 0, 0)))

def z9f (r : ((List z07) × Int × Int)) : List XV := [xL (List.map z14 r.1), xI r.2.1, xI r.2.2]

def zd8 (r : ((List z07) × Int × Int)) : z0q := []

noncomputable def ziq (r : ((List z07) × Int × Int)) : Tg := .r false Tryd.f6.results.toList 0 (z9f r) (zd8 r)

noncomputable def z1q (a0 : z00) (a1 : ByteArray) : Option Bool :=
 if (a0.f_e == 0) then (if (decide ((a0.f_l.length : Int) > 0)) then (idx a0.f_l 0 >>= fun v1 =>
 if (decide (v1.Kind ≥ 3)) then (idx a0.f_l 0 >>= fun v2 =>
 some (v2.Text.toList == a1.toList))
 else (some false))
 else (some false))
 else (some false)

def z2l (r : Bool) : List XV := [xB r]

def z2m (a0 : z00) (r : Bool) : z0q := [oB 39 (bs (z01 a0))]

noncomputable def z09 (a0 : z00) (a1 : ByteArray) : Option (z00 × Bool) :=
 z1q a0 a1 >>= fun v1 =>
 if (!v1) then (some (a0, false))
 else (lsub a0.f_l 1 (a0.f_l.length : Int) >>= fun v2 =>
 some ((z00.mk v2 a0.f_end a0.f_e a0.f_at a0.f_deep a0.f_in), true))

def z1a (r : (z00 × Bool)) : List XV := [xB r.2]

def z1b (r : (z00 × Bool)) : z0q := [oB 39 (bs (z01 r.1))]

noncomputable def z32 (a0 : z00) (a1 : Int) : Option Bool :=
 if (a0.f_e == 0) then (if (decide ((a0.f_l.length : Int) > 0)) then (idx a0.f_l 0 >>= fun v1 =>
 some (v1.Kind == a1))
 else (some false))
 else (some false)

def z4t (r : Bool) : List XV := [xB r]

def z4u (a0 : z00) (r : Bool) : z0q := [oB 39 (bs (z01 a0))]

noncomputable def z18 (a0 : z00) (a1 : Int) : Option z00 :=
 if (a0.f_e != 0) then (some a0)
 else (if (decide ((a0.f_l.length : Int) > 0)) then (idx a0.f_l 0 >>= fun v1 =>
 some (z00.mk a0.f_l a0.f_end a1 v1.At a0.f_deep a0.f_in))
 else (some (z00.mk a0.f_l a0.f_end a1 a0.f_end a0.f_deep a0.f_in)))

def z2n (r : z00) : List XV := []

def z2o (r : z00) : z0q := [oB 39 (bs (z01 r))]

noncomputable def z2w (a0 : z00) (a1 : Int) : Option (z00 × z07) :=
 z32 a0 a1 >>= fun v1 =>
 if (!v1) then (z18 a0 5 >>= fun v2 =>
 some (v2, (z07.mk 0 (ByteArray.mk #[]) 0 0)))
 else (idx a0.f_l 0 >>= fun v3 =>
 lsub a0.f_l 1 (a0.f_l.length : Int) >>= fun v4 =>
 some ((z00.mk v4 a0.f_end a0.f_e a0.f_at a0.f_deep a0.f_in), v3))

def z5b (r : (z00 × z07)) : List XV := [.agg (bs (z14 r.2))]

def z5c (r : (z00 × z07)) : z0q := [oB 39 (bs (z01 r.1))]

noncomputable def z08 (a0 : z00) : Option (z00 × ByteArray) :=
 z2w a0 1 >>= fun v1 =>
 some (v1.1, v1.2.Text)

def z0y (r : (z00 × ByteArray)) : List XV := [xS r.2]

def z0z (r : (z00 × ByteArray)) : z0q := [oB 39 (bs (z01 r.1))]

noncomputable def z0c (a0 : (List ByteArray)) (x1 : (Int × (List z07) × Int × Int × Int × Int × Int)) : Option (Sum (Int × (List z07) × Int × Int × Int × Int × Int) (Sum (z00 × Int) ((List z07) × Int × Int × Int × Int × Int))) :=
 if (decide (x1.1 < (a0.length : Int))) then (idx a0 x1.1 >>= fun v1 =>
 z09 (z00.mk x1.2.1 x1.2.2.1 x1.2.2.2.1 x1.2.2.2.2.1 x1.2.2.2.2.2.1 x1.2.2.2.2.2.2) v1 >>= fun v2 =>
 if v2.2 then (some (.inr (.inl (v2.1, x1.1))))
 else (some (.inl ((IntKind.i64.wrap (x1.1 + 1)), v2.1.f_l, v2.1.f_end, v2.1.f_e, v2.1.f_at, v2.1.f_deep, v2.1.f_in))))
 else (some (.inr (.inr (x1.2.1, x1.2.2.1, x1.2.2.2.1, x1.2.2.2.2.1, x1.2.2.2.2.2.1, x1.2.2.2.2.2.2))))

noncomputable def z17 (a0 : (List ByteArray)) (a1010 : z00) : Option (z00 × Int) :=
 iter (z0c a0) (0, a1010.f_l, a1010.f_end, a1010.f_e, a1010.f_at, a1010.f_deep, a1010.f_in) >>= Sum.elim (fun r => some r) (fun j1 =>
 some ((z00.mk j1.1 j1.2.1 j1.2.2.1 j1.2.2.2.1 j1.2.2.2.2.1 j1.2.2.2.2.2), (-1)))

def z1y (r : (z00 × Int)) : List XV := [xI r.2]

def z1z (r : (z00 × Int)) : z0q := [oB 39 (bs (z01 r.1))]

noncomputable def z3u (r : (z00 × Int)) : Tg := .r false Tryd.f26.results.toList 1 (z1y r) (z1z r)

noncomputable def z0w (a0 : z00) (a1 : (List ByteArray)) : Option (z00 × Int) :=
 z17 a1 a0 >>= fun v1 =>
 some (v1.1, v1.2)

def z3n (r : (z00 × Int)) : List XV := [xI r.2]

def z3o (r : (z00 × Int)) : z0q := [oB 39 (bs (z01 r.1))]

noncomputable def z12 (a0 : z00) : Option (z00 × Int) :=
 z2w a0 2 >>= fun v1 =>
 some (v1.1, v1.2.Num)

def z3f (r : (z00 × Int)) : List XV := [xI r.2]

def z3g (r : (z00 × Int)) : z0q := [oB 39 (bs (z01 r.1))]

noncomputable def z02 (a0 : z00) (a1 : ByteArray) : Option z00 :=
 z09 a0 a1 >>= fun v1 =>
 if (!v1.2) then (z18 v1.1 5 >>= fun v2 =>
 some v2)
 else (some v1.1)

def z0d (r : z00) : List XV := []

def z0e (r : z00) : z0q := [oB 39 (bs (z01 r))]

noncomputable def z15 (x1 : ((List z07) × Int × Int × Int × Int × Int × (List ByteArray))) : Option (Sum ((List z07) × Int × Int × Int × Int × Int × (List ByteArray)) (Sum (z00 × z2y) ((List z07) × Int × Int × Int × Int × Int × (List ByteArray)))) :=
 z09 (z00.mk x1.1 x1.2.1 x1.2.2.1 x1.2.2.2.1 x1.2.2.2.2.1 x1.2.2.2.2.2.1) (ByteArray.mk #[44]) >>= fun v12 =>
 if v12.2 then (z08 v12.1 >>= fun v13 =>
 app 16 x1.2.2.2.2.2.2 [v13.2] >>= fun v14 =>
 some (.inl (v13.1.f_l, v13.1.f_end, v13.1.f_e, v13.1.f_at, v13.1.f_deep, v13.1.f_in, v14)))
 else (some (.inr (.inr (v12.1.f_l, v12.1.f_end, v12.1.f_e, v12.1.f_at, v12.1.f_deep, v12.1.f_in, x1.2.2.2.2.2.2))))

noncomputable def z36 (a0 : z00) : Option (z00 × z2y) :=
 z08 a0 >>= fun v1 =>
 z0w v1.1 [(ByteArray.mk #[98, 108, 111, 99, 107]), (ByteArray.mk #[100, 114, 111, 112]), (ByteArray.mk #[108, 111, 115, 115, 121])] >>= fun v2 =>
 if (decide (v2.2 < 0)) then (z18 v2.1 5 >>= fun v3 =>
 some (v3, (z2y.mk v1.2 v2.2 0 (ByteArray.mk #[]) (ByteArray.mk #[]) [])))
 else (z12 v2.1 >>= fun v4 =>
 z02 v4.1 (ByteArray.mk #[102, 114, 111, 109]) >>= fun v5 =>
 z08 v5 >>= fun v6 =>
 z02 v6.1 (ByteArray.mk #[116, 111]) >>= fun v7 =>
 z08 v7 >>= fun v8 =>
 z02 v8.1 (ByteArray.mk #[123]) >>= fun v9 =>
 z08 v9 >>= fun v10 =>
 app 16 [] [v10.2] >>= fun v11 =>
 iter (z15) (v10.1.f_l, v10.1.f_end, v10.1.f_e, v10.1.f_at, v10.1.f_deep, v10.1.f_in, v11) >>= Sum.elim (fun _ => none) (fun j1 =>
 z02 (z00.mk j1.1 j1.2.1 j1.2.2.1 j1.2.2.2.1 j1.2.2.2.2.1 j1.2.2.2.2.2.1) (ByteArray.mk #[125]) >>= fun v15 =>
 z02 v15 (ByteArray.mk #[59]) >>= fun v16 =>
 some (v16, (z2y.mk v1.2 v2.2 v4.2 v6.2 v8.2 j1.2.2.2.2.2.2))))

def z4h (r : (z00 × z2y)) : List XV := [.agg (bs (z4f r.2))]

def z4i (r : (z00 × z2y)) : z0q := [oB 39 (bs (z01 r.1))]

noncomputable def z7g (r : (z00 × z2y)) : Tg := .r false Tryd.f8.results.toList 1 (z4h r) (z4i r)

noncomputable def z1u (x1 : ((List z07) × Int × Int × Int × Int × Int × (List z47))) : Option (Sum ((List z07) × Int × Int × Int × Int × Int × (List z47)) (Sum (z00 × z3h) ((List z07) × Int × Int × Int × Int × Int × (List z47)))) :=
 ((if (x1.2.2.1 == 0) then (z1q (z00.mk x1.1 x1.2.1 x1.2.2.1 x1.2.2.2.1 x1.2.2.2.2.1 x1.2.2.2.2.2.1) (ByteArray.mk #[125]) >>= fun v3 =>
 some (!v3))
 else (some false) : Option Bool) >>= fun j2 =>
 if j2 then (z12 (z00.mk x1.1 x1.2.1 x1.2.2.1 x1.2.2.2.1 x1.2.2.2.2.1 x1.2.2.2.2.2.1) >>= fun v4 =>
 z08 v4.1 >>= fun v5 =>
 z12 v5.1 >>= fun v6 =>
 z02 v6.1 (ByteArray.mk #[59]) >>= fun v7 =>
 app 32 x1.2.2.2.2.2.2 [(z47.mk v4.2 v5.2 v6.2)] >>= fun v8 =>
 some (.inl (v7.f_l, v7.f_end, v7.f_e, v7.f_at, v7.f_deep, v7.f_in, v8)))
 else (some (.inr (.inr (x1.1, x1.2.1, x1.2.2.1, x1.2.2.2.1, x1.2.2.2.2.1, x1.2.2.2.2.2.1, x1.2.2.2.2.2.2)))))

noncomputable def z3r (a0 : z00) : Option (z00 × z3h) :=
 z08 a0 >>= fun v1 =>
 z02 v1.1 (ByteArray.mk #[123]) >>= fun v2 =>
 iter (z1u) (v2.f_l, v2.f_end, v2.f_e, v2.f_at, v2.f_deep, v2.f_in, []) >>= Sum.elim (fun _ => none) (fun j1 =>
 z02 (z00.mk j1.1 j1.2.1 j1.2.2.1 j1.2.2.2.1 j1.2.2.2.2.1 j1.2.2.2.2.2.1) (ByteArray.mk #[125]) >>= fun v9 =>
 some (v9, (z3h.mk v1.2 j1.2.2.2.2.2.2)))

def z5d (r : (z00 × z3h)) : List XV := [.agg (bs (z5k r.2))]

def z5e (r : (z00 × z3h)) : z0q := [oB 39 (bs (z01 r.1))]

noncomputable def z8r (r : (z00 × z3h)) : Tg := .r false Tryd.f9.results.toList 1 (z5d r) (z5e r)

noncomputable def z3k (a0 : z00) : Option (z00 × Bool) :=
 if (a0.f_deep == 24) then (z18 a0 6 >>= fun v1 =>
 some (v1, false))
 else (some ((z00.mk a0.f_l a0.f_end a0.f_e a0.f_at (IntKind.i64.wrap (a0.f_deep + 1)) a0.f_in), true))

def z50 (r : (z00 × Bool)) : List XV := [xB r.2]

def z52 (r : (z00 × Bool)) : z0q := [oB 39 (bs (z01 r.1))]

def z1c (r : (z00 × z03)) : List XV := [.agg (bs (z3j r.2))]

def z1d (r : (z00 × z03)) : z0q := [oB 39 (bs (z01 r.1))]

noncomputable def z1g (F_parse_reader_expr : z00 → Option (z00 × z03)) (F_parse_reader_chain_parse_reader_term : z00 → (List ByteArray) → Int → Option (z00 × z03)) (F_parse_reader_term : z00 → Option (z00 × z03)) (F_parse_reader_chain_parse_reader_factor : z00 → (List ByteArray) → Int → Option (z00 × z03)) (F_parse_reader_factor : z00 → Option (z00 × z03)) (F_parse_reader_negated : z00 → Option (z00 × z03)) (F_parse_reader_parens : z00 → Option (z00 × z03)) (a2 : (List ByteArray)) (a3 : Int) (x1 : ((List z07) × Int × Int × Int × Int × Int × Int × Int × ByteArray × (List z03))) : Option (Sum ((List z07) × Int × Int × Int × Int × Int × Int × Int × ByteArray × (List z03)) (Sum (z00 × z03) ((List z07) × Int × Int × Int × Int × Int × Int × Int × ByteArray × (List z03)))) :=
 if (x1.2.2.1 == 0) then (z0w (z00.mk x1.1 x1.2.1 x1.2.2.1 x1.2.2.2.1 x1.2.2.2.2.1 x1.2.2.2.2.2.1) a2 >>= fun v2 =>
 if (decide (v2.2 < 0)) then (some (.inr (.inr (v2.1.f_l, v2.1.f_end, v2.1.f_e, v2.1.f_at, v2.1.f_deep, v2.1.f_in, x1.2.2.2.2.2.2.1, x1.2.2.2.2.2.2.2.1, x1.2.2.2.2.2.2.2.2.1, x1.2.2.2.2.2.2.2.2.2))))
 else (F_parse_reader_term v2.1 >>= fun v3 =>
 some (.inl (v3.1.f_l, v3.1.f_end, v3.1.f_e, v3.1.f_at, v3.1.f_deep, v3.1.f_in, (IntKind.i64.wrap (a3 + v2.2)), 0, (ByteArray.mk #[]), [(z03.mk x1.2.2.2.2.2.2.1 x1.2.2.2.2.2.2.2.1 x1.2.2.2.2.2.2.2.2.1 x1.2.2.2.2.2.2.2.2.2), v3.2]))))
 else (some (.inr (.inr (x1.1, x1.2.1, x1.2.2.1, x1.2.2.2.1, x1.2.2.2.2.1, x1.2.2.2.2.2.1, x1.2.2.2.2.2.2.1, x1.2.2.2.2.2.2.2.1, x1.2.2.2.2.2.2.2.2.1, x1.2.2.2.2.2.2.2.2.2))))

def z0l (r : (z00 × z03)) : List XV := [.agg (bs (z3j r.2))]

def z0m (r : (z00 × z03)) : z0q := [oB 39 (bs (z01 r.1))]

noncomputable def z4v (r : (z00 × z03)) : Tg := .r false Tryd.f64.results.toList 1 (z0l r) (z0m r)

def z22 (r : (z00 × z03)) : List XV := [.agg (bs (z3j r.2))]

def z23 (r : (z00 × z03)) : z0q := [oB 39 (bs (z01 r.1))]

noncomputable def z19 (F_parse_reader_expr : z00 → Option (z00 × z03)) (F_parse_reader_chain_parse_reader_term : z00 → (List ByteArray) → Int → Option (z00 × z03)) (F_parse_reader_term : z00 → Option (z00 × z03)) (F_parse_reader_chain_parse_reader_factor : z00 → (List ByteArray) → Int → Option (z00 × z03)) (F_parse_reader_factor : z00 → Option (z00 × z03)) (F_parse_reader_negated : z00 → Option (z00 × z03)) (F_parse_reader_parens : z00 → Option (z00 × z03)) (a2 : (List ByteArray)) (a3 : Int) (x1 : ((List z07) × Int × Int × Int × Int × Int × Int × Int × ByteArray × (List z03))) : Option (Sum ((List z07) × Int × Int × Int × Int × Int × Int × Int × ByteArray × (List z03)) (Sum (z00 × z03) ((List z07) × Int × Int × Int × Int × Int × Int × Int × ByteArray × (List z03)))) :=
 if (x1.2.2.1 == 0) then (z0w (z00.mk x1.1 x1.2.1 x1.2.2.1 x1.2.2.2.1 x1.2.2.2.2.1 x1.2.2.2.2.2.1) a2 >>= fun v2 =>
 if (decide (v2.2 < 0)) then (some (.inr (.inr (v2.1.f_l, v2.1.f_end, v2.1.f_e, v2.1.f_at, v2.1.f_deep, v2.1.f_in, x1.2.2.2.2.2.2.1, x1.2.2.2.2.2.2.2.1, x1.2.2.2.2.2.2.2.2.1, x1.2.2.2.2.2.2.2.2.2))))
 else (F_parse_reader_factor v2.1 >>= fun v3 =>
 some (.inl (v3.1.f_l, v3.1.f_end, v3.1.f_e, v3.1.f_at, v3.1.f_deep, v3.1.f_in, (IntKind.i64.wrap (a3 + v2.2)), 0, (ByteArray.mk #[]), [(z03.mk x1.2.2.2.2.2.2.1 x1.2.2.2.2.2.2.2.1 x1.2.2.2.2.2.2.2.2.1 x1.2.2.2.2.2.2.2.2.2), v3.2]))))
 else (some (.inr (.inr (x1.1, x1.2.1, x1.2.2.1, x1.2.2.2.1, x1.2.2.2.2.1, x1.2.2.2.2.2.1, x1.2.2.2.2.2.2.1, x1.2.2.2.2.2.2.2.1, x1.2.2.2.2.2.2.2.2.1, x1.2.2.2.2.2.2.2.2.2))))

def z0i (r : (z00 × z03)) : List XV := [.agg (bs (z3j r.2))]

def z0j (r : (z00 × z03)) : z0q := [oB 39 (bs (z01 r.1))]

noncomputable def z4l (r : (z00 × z03)) : Tg := .r false Tryd.f64.results.toList 1 (z0i r) (z0j r)

def z1n (r : (z00 × z03)) : List XV := [.agg (bs (z3j r.2))]

def z1o (r : (z00 × z03)) : z0q := [oB 39 (bs (z01 r.1))]

def z1s (r : (z00 × z03)) : List XV := [.agg (bs (z3j r.2))]

def z1t (r : (z00 × z03)) : z0q := [oB 39 (bs (z01 r.1))]

def z1w (r : (z00 × z03)) : List XV := [.agg (bs (z3j r.2))]

def z1x (r : (z00 × z03)) : z0q := [oB 39 (bs (z01 r.1))]

mutual
noncomputable def z0t : Nat → z00 → Option (z00 × z03)
  | 0, _ => none
  | n + 1, a0 => (z06 n) a0 [(ByteArray.mk #[43]), (ByteArray.mk #[45])] 4 >>= fun v1 =>
 some (v1.1, v1.2)
noncomputable def z06 : Nat → z00 → (List ByteArray) → Int → Option (z00 × z03)
  | 0, _, _, _ => none
  | n + 1, a0, a2, a3 => (z0p n) a0 >>= fun v1 =>
 iter (z1g (z0t n) (z06 n) (z0p n) (z05 n) (z0a n) (z0r n) (z0u n) a2 a3) (v1.1.f_l, v1.1.f_end, v1.1.f_e, v1.1.f_at, v1.1.f_deep, v1.1.f_in, v1.2.Kind, v1.2.Num, v1.2.Name, v1.2.Kids) >>= Sum.elim (fun _ => none) (fun j1 =>
 some ((z00.mk j1.1 j1.2.1 j1.2.2.1 j1.2.2.2.1 j1.2.2.2.2.1 j1.2.2.2.2.2.1), (z03.mk j1.2.2.2.2.2.2.1 j1.2.2.2.2.2.2.2.1 j1.2.2.2.2.2.2.2.2.1 j1.2.2.2.2.2.2.2.2.2)))
noncomputable def z0p : Nat → z00 → Option (z00 × z03)
  | 0, _ => none
  | n + 1, a0 => (z05 n) a0 [(ByteArray.mk #[42]), (ByteArray.mk #[47]), (ByteArray.mk #[37])] 6 >>= fun v1 =>
 some (v1.1, v1.2)
noncomputable def z05 : Nat → z00 → (List ByteArray) → Int → Option (z00 × z03)
  | 0, _, _, _ => none
  | n + 1, a0, a2, a3 => (z0a n) a0 >>= fun v1 =>
 iter (z19 (z0t n) (z06 n) (z0p n) (z05 n) (z0a n) (z0r n) (z0u n) a2 a3) (v1.1.f_l, v1.1.f_end, v1.1.f_e, v1.1.f_at, v1.1.f_deep, v1.1.f_in, v1.2.Kind, v1.2.Num, v1.2.Name, v1.2.Kids) >>= Sum.elim (fun _ => none) (fun j1 =>
 some ((z00.mk j1.1 j1.2.1 j1.2.2.1 j1.2.2.2.1 j1.2.2.2.2.1 j1.2.2.2.2.2.1), (z03.mk j1.2.2.2.2.2.2.1 j1.2.2.2.2.2.2.2.1 j1.2.2.2.2.2.2.2.2.1 j1.2.2.2.2.2.2.2.2.2)))
noncomputable def z0a : Nat → z00 → Option (z00 × z03)
  | 0, _ => none
  | n + 1, a0 => z1q a0 (ByteArray.mk #[45]) >>= fun v1 =>
 if v1 then ((z0r n) a0 >>= fun v2 =>
 some (v2.1, v2.2))
 else (z1q a0 (ByteArray.mk #[40]) >>= fun v3 =>
 if v3 then ((z0u n) a0 >>= fun v4 =>
 some (v4.1, v4.2))
 else (z32 a0 2 >>= fun v5 =>
 if v5 then (z12 a0 >>= fun v6 =>
 some (v6.1, (z03.mk 1 v6.2 (ByteArray.mk #[]) [])))
 else (z08 a0 >>= fun v7 =>
 some (v7.1, (z03.mk 2 0 v7.2 [])))))
noncomputable def z0r : Nat → z00 → Option (z00 × z03)
  | 0, _ => none
  | n + 1, a0 => z3k a0 >>= fun v1 =>
 if (!v1.2) then (some (v1.1, (z03.mk 0 0 (ByteArray.mk #[]) [])))
 else (z02 v1.1 (ByteArray.mk #[45]) >>= fun v2 =>
 (z0a n) v2 >>= fun v3 =>
 some ((z00.mk v3.1.f_l v3.1.f_end v3.1.f_e v3.1.f_at (IntKind.i64.wrap (v3.1.f_deep - 1)) v3.1.f_in), (z03.mk 3 0 (ByteArray.mk #[]) [v3.2])))
noncomputable def z0u : Nat → z00 → Option (z00 × z03)
  | 0, _ => none
  | n + 1, a0 => z3k a0 >>= fun v1 =>
 if (!v1.2) then (some (v1.1, (z03.mk 0 0 (ByteArray.mk #[]) [])))
 else (z02 v1.1 (ByteArray.mk #[40]) >>= fun v2 =>
 (z0t n) v2 >>= fun v3 =>
 z02 v3.1 (ByteArray.mk #[41]) >>= fun v4 =>
 some ((z00.mk v4.f_l v4.f_end v4.f_e v4.f_at (IntKind.i64.wrap (v4.f_deep - 1)) v4.f_in), v3.2))
end

noncomputable def z2q (a0 : z00) : Option (z00 × z03) := unf fun n => z0t n a0

noncomputable def z3s (a0 : z00) : Option (z00 × z04) :=
 z08 a0 >>= fun v1 =>
 z02 v1.1 (ByteArray.mk #[46]) >>= fun v2 =>
 z08 v2 >>= fun v3 =>
 z02 v3.1 (ByteArray.mk #[40]) >>= fun v4 =>
 z2q v4 >>= fun v5 =>
 z02 v5.1 (ByteArray.mk #[41]) >>= fun v6 =>
 z02 v6 (ByteArray.mk #[59]) >>= fun v7 =>
 some (v7, (z04.mk 4 v1.2 v3.2 v5.2 (z3p.mk 0 (z03.mk 0 0 (ByteArray.mk #[]) []) (z03.mk 0 0 (ByteArray.mk #[]) [])) [] [] []))

def z6j (r : (z00 × z04)) : List XV := [.agg (bs (z2j r.2))]

def z6k (r : (z00 × z04)) : z0q := [oB 39 (bs (z01 r.1))]

noncomputable def z2r (a0 : z00) : Option (z00 × z3p) :=
 z02 a0 (ByteArray.mk #[40]) >>= fun v1 =>
 z2q v1 >>= fun v2 =>
 z0w v2.1 [(ByteArray.mk #[61, 61]), (ByteArray.mk #[33, 61]), (ByteArray.mk #[60]), (ByteArray.mk #[60, 61]), (ByteArray.mk #[62]), (ByteArray.mk #[62, 61])] >>= fun v3 =>
 if (decide (v3.2 < 0)) then (z18 v3.1 5 >>= fun v4 =>
 some (v4, (z3p.mk 0 v2.2 (z03.mk 0 0 (ByteArray.mk #[]) []))))
 else (z2q v3.1 >>= fun v5 =>
 z02 v5.1 (ByteArray.mk #[41]) >>= fun v6 =>
 some (v6, (z3p.mk (IntKind.i64.wrap (1 + v3.2)) v2.2 v5.2)))

def z4b (r : (z00 × z3p)) : List XV := [.agg (bs (zgt r.2))]

def z4c (r : (z00 × z3p)) : z0q := [oB 39 (bs (z01 r.1))]

noncomputable def z3b (a0 : z00) : Option (z00 × z04) :=
 z2r a0 >>= fun v1 =>
 z02 v1.1 (ByteArray.mk #[59]) >>= fun v2 =>
 some (v2, (z04.mk 6 (ByteArray.mk #[]) (ByteArray.mk #[]) (z03.mk 0 0 (ByteArray.mk #[]) []) v1.2 [] [] []))

def z5z (r : (z00 × z04)) : List XV := [.agg (bs (z2j r.2))]

def z60 (r : (z00 × z04)) : z0q := [oB 39 (bs (z01 r.1))]

noncomputable def z3l (a0 : z00) : Option (z00 × z04) :=
 z08 a0 >>= fun v1 =>
 z02 v1.1 (ByteArray.mk #[59]) >>= fun v2 =>
 some (v2, (z04.mk 7 v1.2 (ByteArray.mk #[]) (z03.mk 0 0 (ByteArray.mk #[]) []) (z3p.mk 0 (z03.mk 0 0 (ByteArray.mk #[]) []) (z03.mk 0 0 (ByteArray.mk #[]) [])) [] [] []))

def z66 (r : (z00 × z04)) : List XV := [.agg (bs (z2j r.2))]

def z67 (r : (z00 × z04)) : z0q := [oB 39 (bs (z01 r.1))]

noncomputable def z3c (a0 : z00) : Option (z00 × z04) :=
 z08 a0 >>= fun v1 =>
 z02 v1.1 (ByteArray.mk #[61]) >>= fun v2 =>
 z2q v2 >>= fun v3 =>
 z02 v3.1 (ByteArray.mk #[59]) >>= fun v4 =>
 some (v4, (z04.mk 1 v1.2 (ByteArray.mk #[]) v3.2 (z3p.mk 0 (z03.mk 0 0 (ByteArray.mk #[]) []) (z03.mk 0 0 (ByteArray.mk #[]) [])) [] [] []))

def z61 (r : (z00 × z04)) : List XV := [.agg (bs (z2j r.2))]

def z62 (r : (z00 × z04)) : z0q := [oB 39 (bs (z01 r.1))]

noncomputable def z41 (F_parse_reader_stmts : z00 → Option (z00 × (List z04))) (F_parse_reader_stmt : z00 → Option (z00 × z04 × Bool)) (F_parse_reader_conditional : z00 → Option (z00 × z04)) (F_parse_reader_loop : z00 → Option (z00 × z04)) (F_parse_reader_recv : z00 → Option (z00 × z04)) (F_parse_reader_block : z00 → Option (z00 × (List z04))) (F_parse_reader_arm : z00 → Option (z00 × z27)) (x1 : ((List z07) × Int × Int × Int × Int × Int × (List z04))) : Option (Sum ((List z07) × Int × Int × Int × Int × Int × (List z04)) (Sum (z00 × (List z04)) Unit)) :=
 F_parse_reader_stmt (z00.mk x1.1 x1.2.1 x1.2.2.1 x1.2.2.2.1 x1.2.2.2.2.1 x1.2.2.2.2.2.1) >>= fun v1 =>
 if (!v1.2.2) then (some (.inr (.inl (v1.1, x1.2.2.2.2.2.2))))
 else (app 288 x1.2.2.2.2.2.2 [v1.2.1] >>= fun v2 =>
 some (.inl (v1.1.f_l, v1.1.f_end, v1.1.f_e, v1.1.f_at, v1.1.f_deep, v1.1.f_in, v2)))

def z1j (r : (z00 × (List z04))) : List XV := [xL (List.map z28 r.2)]

def z1k (r : (z00 × (List z04))) : z0q := [oB 39 (bs (z01 r.1))]

noncomputable def z8a (r : (z00 × (List z04))) : Tg := .r false Tryd.f18.results.toList 1 (z1j r) (z1k r)

def z2b (r : (z00 × z04 × Bool)) : List XV := [.agg (bs (z2j r.2.1)), xB r.2.2]

def z2c (r : (z00 × z04 × Bool)) : z0q := [oB 39 (bs (z01 r.1))]

def z1e (r : (z00 × z04)) : List XV := [.agg (bs (z2j r.2))]

def z1f (r : (z00 × z04)) : z0q := [oB 39 (bs (z01 r.1))]

def z2d (r : (z00 × z04)) : List XV := [.agg (bs (z2j r.2))]

def z2e (r : (z00 × z04)) : z0q := [oB 39 (bs (z01 r.1))]

noncomputable def z38 (F_parse_reader_stmts : z00 → Option (z00 × (List z04))) (F_parse_reader_stmt : z00 → Option (z00 × z04 × Bool)) (F_parse_reader_conditional : z00 → Option (z00 × z04)) (F_parse_reader_loop : z00 → Option (z00 × z04)) (F_parse_reader_recv : z00 → Option (z00 × z04)) (F_parse_reader_block : z00 → Option (z00 × (List z04))) (F_parse_reader_arm : z00 → Option (z00 × z27)) (x1 : ((List z07) × Int × Int × Int × Int × Int × (List z27))) : Option (Sum ((List z07) × Int × Int × Int × Int × Int × (List z27)) (Sum (z00 × z04) ((List z07) × Int × Int × Int × Int × Int × (List z27)))) :=
 ((if (x1.2.2.1 == 0) then (z1q (z00.mk x1.1 x1.2.1 x1.2.2.1 x1.2.2.2.1 x1.2.2.2.2.1 x1.2.2.2.2.2.1) (ByteArray.mk #[125]) >>= fun v5 =>
 some (!v5))
 else (some false) : Option Bool) >>= fun j2 =>
 if j2 then (F_parse_reader_arm (z00.mk x1.1 x1.2.1 x1.2.2.1 x1.2.2.2.1 x1.2.2.2.2.1 x1.2.2.2.2.2.1) >>= fun v6 =>
 app 56 x1.2.2.2.2.2.2 [v6.2] >>= fun v7 =>
 some (.inl (v6.1.f_l, v6.1.f_end, v6.1.f_e, v6.1.f_at, v6.1.f_deep, v6.1.f_in, v7)))
 else (some (.inr (.inr (x1.1, x1.2.1, x1.2.2.1, x1.2.2.2.1, x1.2.2.2.2.1, x1.2.2.2.2.2.1, x1.2.2.2.2.2.2)))))

def z24 (r : (z00 × z04)) : List XV := [.agg (bs (z2j r.2))]

def z25 (r : (z00 × z04)) : z0q := [oB 39 (bs (z01 r.1))]

noncomputable def z8s (r : (z00 × z04)) : Tg := .r false Tryd.f36.results.toList 1 (z24 r) (z25 r)

def z1l (r : (z00 × (List z04))) : List XV := [xL (List.map z28 r.2)]

def z1m (r : (z00 × (List z04))) : z0q := [oB 39 (bs (z01 r.1))]

def z29 (r : (z00 × z27)) : List XV := [.agg (bs (zio r.2))]

def z2a (r : (z00 × z27)) : z0q := [oB 39 (bs (z01 r.1))]

mutual
noncomputable def z0n : Nat → z00 → Option (z00 × (List z04))
  | 0, _ => none
  | n + 1, a0 => iter (z41 (z0n n) (z0f n) (z0k n) (z10 n) (z0x n) (z0b n) (z0s n)) (a0.f_l, a0.f_end, a0.f_e, a0.f_at, a0.f_deep, a0.f_in, []) >>= Sum.elim (fun r => some r) (fun j1 =>
 none)
noncomputable def z0f : Nat → z00 → Option (z00 × z04 × Bool)
  | 0, _ => none
  | n + 1, a0 => z09 a0 (ByteArray.mk #[105, 102]) >>= fun v1 =>
 if v1.2 then ((z0k n) v1.1 >>= fun v2 =>
 some (v2.1, v2.2, true))
 else (z09 v1.1 (ByteArray.mk #[119, 104, 105, 108, 101]) >>= fun v3 =>
 if v3.2 then ((z10 n) v3.1 >>= fun v4 =>
 some (v4.1, v4.2, true))
 else (z09 v3.1 (ByteArray.mk #[115, 101, 110, 100]) >>= fun v5 =>
 if v5.2 then (z3s v5.1 >>= fun v6 =>
 some (v6.1, v6.2, true))
 else (z09 v5.1 (ByteArray.mk #[114, 101, 99, 118]) >>= fun v7 =>
 if v7.2 then ((z0x n) v7.1 >>= fun v8 =>
 some (v8.1, v8.2, true))
 else (z09 v7.1 (ByteArray.mk #[97, 115, 115, 101, 114, 116]) >>= fun v9 =>
 if v9.2 then (z3b v9.1 >>= fun v10 =>
 some (v10.1, v10.2, true))
 else (z09 v9.1 (ByteArray.mk #[105, 110, 112, 117, 116]) >>= fun v11 =>
 if v11.2 then (z3l v11.1 >>= fun v12 =>
 some (v12.1, v12.2, true))
 else (z32 v11.1 1 >>= fun v13 =>
 if v13 then (z3c v11.1 >>= fun v14 =>
 some (v14.1, v14.2, true))
 else (some (v11.1, (z04.mk 0 (ByteArray.mk #[]) (ByteArray.mk #[]) (z03.mk 0 0 (ByteArray.mk #[]) []) (z3p.mk 0 (z03.mk 0 0 (ByteArray.mk #[]) []) (z03.mk 0 0 (ByteArray.mk #[]) [])) [] [] []), false))))))))
noncomputable def z0k : Nat → z00 → Option (z00 × z04)
  | 0, _ => none
  | n + 1, a0 => z2r a0 >>= fun v1 =>
 (z0b n) v1.1 >>= fun v2 =>
 z09 v2.1 (ByteArray.mk #[101, 108, 115, 101]) >>= fun v3 =>
 if v3.2 then ((z0b n) v3.1 >>= fun v4 =>
 some (v4.1, (z04.mk 2 (ByteArray.mk #[]) (ByteArray.mk #[]) (z03.mk 0 0 (ByteArray.mk #[]) []) v1.2 v2.2 v4.2 [])))
 else (some (v3.1, (z04.mk 2 (ByteArray.mk #[]) (ByteArray.mk #[]) (z03.mk 0 0 (ByteArray.mk #[]) []) v1.2 v2.2 [] [])))
noncomputable def z10 : Nat → z00 → Option (z00 × z04)
  | 0, _ => none
  | n + 1, a0 => z2r a0 >>= fun v1 =>
 (z0b n) v1.1 >>= fun v2 =>
 some (v2.1, (z04.mk 3 (ByteArray.mk #[]) (ByteArray.mk #[]) (z03.mk 0 0 (ByteArray.mk #[]) []) v1.2 v2.2 [] []))
noncomputable def z0x : Nat → z00 → Option (z00 × z04)
  | 0, _ => none
  | n + 1, a0 => z08 a0 >>= fun v1 =>
 z02 v1.1 (ByteArray.mk #[123]) >>= fun v2 =>
 (z0s n) v2 >>= fun v3 =>
 app 56 [] [v3.2] >>= fun v4 =>
 iter (z38 (z0n n) (z0f n) (z0k n) (z10 n) (z0x n) (z0b n) (z0s n)) (v3.1.f_l, v3.1.f_end, v3.1.f_e, v3.1.f_at, v3.1.f_deep, v3.1.f_in, v4) >>= Sum.elim (fun _ => none) (fun j1 =>
 z02 (z00.mk j1.1 j1.2.1 j1.2.2.1 j1.2.2.2.1 j1.2.2.2.2.1 j1.2.2.2.2.2.1) (ByteArray.mk #[125]) >>= fun v8 =>
 some (v8, (z04.mk 5 v1.2 (ByteArray.mk #[]) (z03.mk 0 0 (ByteArray.mk #[]) []) (z3p.mk 0 (z03.mk 0 0 (ByteArray.mk #[]) []) (z03.mk 0 0 (ByteArray.mk #[]) [])) [] [] j1.2.2.2.2.2.2)))
noncomputable def z0b : Nat → z00 → Option (z00 × (List z04))
  | 0, _ => none
  | n + 1, a0 => ((z1q a0 (ByteArray.mk #[123]) >>= fun v1 =>
 if v1 then (some (a0.f_in == 24))
 else (some false) : Option Bool) >>= fun j1 =>
 if j1 then (z18 a0 6 >>= fun v2 =>
 some (v2, []))
 else (z02 a0 (ByteArray.mk #[123]) >>= fun v3 =>
 (z0n n) (z00.mk v3.f_l v3.f_end v3.f_e v3.f_at v3.f_deep (IntKind.i64.wrap (v3.f_in + 1))) >>= fun v4 =>
 z02 (z00.mk v4.1.f_l v4.1.f_end v4.1.f_e v4.1.f_at v4.1.f_deep (IntKind.i64.wrap (v4.1.f_in - 1))) (ByteArray.mk #[125]) >>= fun v5 =>
 some (v5, v4.2)))
noncomputable def z0s : Nat → z00 → Option (z00 × z27)
  | 0, _ => none
  | n + 1, a0 => z08 a0 >>= fun v1 =>
 z02 v1.1 (ByteArray.mk #[40]) >>= fun v2 =>
 z08 v2 >>= fun v3 =>
 z02 v3.1 (ByteArray.mk #[41]) >>= fun v4 =>
 (z0b n) v4 >>= fun v5 =>
 some (v5.1, (z27.mk v1.2 v3.2 v5.2))
end

noncomputable def z3m (a0 : z00) : Option (z00 × (List z04)) := unf fun n => z0n n a0

noncomputable def z1v (x1 : ((List z07) × Int × Int × Int × Int × Int × (List ByteArray))) : Option (Sum ((List z07) × Int × Int × Int × Int × Int × (List ByteArray)) (Sum (z00 × z3i) ((List z07) × Int × Int × Int × Int × Int × (List ByteArray)))) :=
 z09 (z00.mk x1.1 x1.2.1 x1.2.2.1 x1.2.2.2.1 x1.2.2.2.2.1 x1.2.2.2.2.2.1) (ByteArray.mk #[118, 97, 114]) >>= fun v3 =>
 if v3.2 then (z08 v3.1 >>= fun v4 =>
 app 16 x1.2.2.2.2.2.2 [v4.2] >>= fun v5 =>
 z02 v4.1 (ByteArray.mk #[59]) >>= fun v6 =>
 some (.inl (v6.f_l, v6.f_end, v6.f_e, v6.f_at, v6.f_deep, v6.f_in, v5)))
 else (some (.inr (.inr (v3.1.f_l, v3.1.f_end, v3.1.f_e, v3.1.f_at, v3.1.f_deep, v3.1.f_in, x1.2.2.2.2.2.2))))

noncomputable def z3t (a0 : z00) : Option (z00 × z3i) :=
 z08 a0 >>= fun v1 =>
 z02 v1.1 (ByteArray.mk #[123]) >>= fun v2 =>
 iter (z1v) (v2.f_l, v2.f_end, v2.f_e, v2.f_at, v2.f_deep, v2.f_in, []) >>= Sum.elim (fun _ => none) (fun j1 =>
 z3m (z00.mk j1.1 j1.2.1 j1.2.2.1 j1.2.2.2.1 j1.2.2.2.2.1 j1.2.2.2.2.2.1) >>= fun v7 =>
 z02 v7.1 (ByteArray.mk #[125]) >>= fun v8 =>
 some (v8, (z3i.mk v1.2 j1.2.2.2.2.2.2 v7.2)))

def z5f (r : (z00 × z3i)) : List XV := [.agg (bs (z0v r.2))]

def z5g (r : (z00 × z3i)) : z0q := [oB 39 (bs (z01 r.1))]

noncomputable def z8t (r : (z00 × z3i)) : Tg := .r false Tryd.f10.results.toList 1 (z5f r) (z5g r)

noncomputable def z3d (x1 : ((List z07) × Int × Int × Int × Int × Int × (List z2y))) : Option (Sum ((List z07) × Int × Int × Int × Int × Int × (List z2y)) (Sum (z2h × Int × Int) ((List z07) × Int × Int × Int × Int × Int × (List z2y)))) :=
 z09 (z00.mk x1.1 x1.2.1 x1.2.2.1 x1.2.2.2.1 x1.2.2.2.2.1 x1.2.2.2.2.2.1) (ByteArray.mk #[99, 104, 97, 110]) >>= fun v2 =>
 if v2.2 then (z36 v2.1 >>= fun v3 =>
 app 88 x1.2.2.2.2.2.2 [v3.2] >>= fun v4 =>
 some (.inl (v3.1.f_l, v3.1.f_end, v3.1.f_e, v3.1.f_at, v3.1.f_deep, v3.1.f_in, v4)))
 else (some (.inr (.inr (v2.1.f_l, v2.1.f_end, v2.1.f_e, v2.1.f_at, v2.1.f_deep, v2.1.f_in, x1.2.2.2.2.2.2))))

noncomputable def z3e (x2 : ((List z07) × Int × Int × Int × Int × Int × (List z3h))) : Option (Sum ((List z07) × Int × Int × Int × Int × Int × (List z3h)) (Sum (z2h × Int × Int) ((List z07) × Int × Int × Int × Int × Int × (List z3h)))) :=
 z09 (z00.mk x2.1 x2.2.1 x2.2.2.1 x2.2.2.2.1 x2.2.2.2.2.1 x2.2.2.2.2.2.1) (ByteArray.mk #[114, 117, 108, 101]) >>= fun v5 =>
 if v5.2 then (z3r v5.1 >>= fun v6 =>
 app 40 x2.2.2.2.2.2.2 [v6.2] >>= fun v7 =>
 some (.inl (v6.1.f_l, v6.1.f_end, v6.1.f_e, v6.1.f_at, v6.1.f_deep, v6.1.f_in, v7)))
 else (some (.inr (.inr (v5.1.f_l, v5.1.f_end, v5.1.f_e, v5.1.f_at, v5.1.f_deep, v5.1.f_in, x2.2.2.2.2.2.2))))

noncomputable def z2z (x3 : ((List z07) × Int × Int × Int × Int × Int × (List z3i))) : Option (Sum ((List z07) × Int × Int × Int × Int × Int × (List z3i)) (Sum (z2h × Int × Int) ((List z07) × Int × Int × Int × Int × Int × (List z3i)))) :=
 z09 (z00.mk x3.1 x3.2.1 x3.2.2.1 x3.2.2.2.1 x3.2.2.2.2.1 x3.2.2.2.2.2.1) (ByteArray.mk #[112, 114, 111, 99]) >>= fun v8 =>
 if v8.2 then (z3t v8.1 >>= fun v9 =>
 app 64 x3.2.2.2.2.2.2 [v9.2] >>= fun v10 =>
 some (.inl (v9.1.f_l, v9.1.f_end, v9.1.f_e, v9.1.f_at, v9.1.f_deep, v9.1.f_in, v10)))
 else (some (.inr (.inr (v8.1.f_l, v8.1.f_end, v8.1.f_e, v8.1.f_at, v8.1.f_deep, v8.1.f_in, x3.2.2.2.2.2.2))))

noncomputable def z33 (a0 : ByteArray) : Option (z2h × Int × Int) :=
 z8q a0 >>= fun v1 =>
 if (v1.2.2 != 0) then (some ((z2h.mk [] [] []), v1.2.1, v1.2.2))
 else (iter (z3d) (v1.1, (a0.size : Int), 0, 0, 0, 0, []) >>= Sum.elim (fun _ => none) (fun j1 =>
 iter (z3e) (j1.1, j1.2.1, j1.2.2.1, j1.2.2.2.1, j1.2.2.2.2.1, j1.2.2.2.2.2.1, []) >>= Sum.elim (fun _ => none) (fun j2 =>
 iter (z2z) (j2.1, j2.2.1, j2.2.2.1, j2.2.2.2.1, j2.2.2.2.2.1, j2.2.2.2.2.2.1, []) >>= Sum.elim (fun _ => none) (fun j3 =>
 if (decide ((j3.1.length : Int) > 0)) then (z18 (z00.mk j3.1 j3.2.1 j3.2.2.1 j3.2.2.2.1 j3.2.2.2.2.1 j3.2.2.2.2.2.1) 5 >>= fun v11 =>
 if (v11.f_e != 0) then (some ((z2h.mk [] [] []), v11.f_at, v11.f_e))
 else (some ((z2h.mk j1.2.2.2.2.2.2 j2.2.2.2.2.2.2 j3.2.2.2.2.2.2), 0, 0)))
 else (if (j3.2.2.1 != 0) then (some ((z2h.mk [] [] []), j3.2.2.2.1, j3.2.2.1))
 else (some ((z2h.mk j1.2.2.2.2.2.2 j2.2.2.2.2.2.2 j3.2.2.2.2.2.2), 0, 0)))))))

def z34 (r : (z2h × Int × Int)) : List XV := [.agg (bs (zd5 r.1)), xI r.2.1, xI r.2.2]

def z9g (r : (z2h × Int × Int)) : z0q := []

noncomputable def z7a (r : (z2h × Int × Int)) : Tg := .r false Tryd.f4.results.toList 0 (z34 r) (z9g r)

noncomputable def z2t : Option Bool :=
 z33 (ByteArray.mk #[112, 114, 111, 99, 32, 112, 32, 123, 32, 120, 32, 61, 32, 49, 32, 43, 32, 50, 32, 42, 32, 51, 32, 59, 32, 125]) >>= fun v1 =>
 z33 (ByteArray.mk #[112, 114, 111, 99, 32, 112]) >>= fun v2 =>
 ((if (v1.2.2 == 0) then (if ((v1.1.Procs.length : Int) == 1) then (idx v1.1.Procs 0 >>= fun v3 =>
 if ((v3.Body.length : Int) == 1) then (idx v1.1.Procs 0 >>= fun v4 =>
 idx v4.Body 0 >>= fun v5 =>
 if (v5.E.Kind == 4) then (idx v1.1.Procs 0 >>= fun v6 =>
 idx v6.Body 0 >>= fun v7 =>
 if ((v7.E.Kids.length : Int) == 2) then (idx v1.1.Procs 0 >>= fun v8 =>
 idx v8.Body 0 >>= fun v9 =>
 idx v9.E.Kids 1 >>= fun v10 =>
 if (v10.Kind == 6) then (if (v2.2.2 == 5) then (some (v2.2.1 == 6))
 else (some false))
 else (some false))
 else (some false))
 else (some false))
 else (some false))
 else (some false))
 else (some false) : Option Bool) >>= fun j1 =>
 some j1)

def z11 (r : Bool) : List XV := [xB r]

def zd9 (r : Bool) : z0q := []

noncomputable def z49 (v1 : Int) (v3 : ByteArray) (x1 : (ByteArray × Int)) : Option (Sum (ByteArray × Int) (Sum Bool ByteArray)) :=
 if (decide (x1.2 < (IntKind.i64.wrap (20 + (IntKind.i64.wrap v1))))) then (scat x1.1 v3 >>= fun v6 =>
 some (.inl (v6, (IntKind.i64.wrap (x1.2 + 1)))))
 else (some (.inr (.inr x1.1)))

noncomputable def z4w (v1 : Int) (x3 : (ByteArray × Int)) : Option (Sum (ByteArray × Int) (Sum Bool ByteArray)) :=
 if (decide (x3.2 < (IntKind.i64.wrap (20 + (IntKind.i64.wrap v1))))) then (scat x3.1 (ByteArray.mk #[41]) >>= fun v13 =>
 some (.inl (v13, (IntKind.i64.wrap (x3.2 + 1)))))
 else (some (.inr (.inr x3.1)))

noncomputable def z5s (v1 : Int) (x5 : (ByteArray × Int)) : Option (Sum (ByteArray × Int) (Sum Bool ByteArray)) :=
 if (decide (x5.2 < (IntKind.i64.wrap (20 + (IntKind.i64.wrap v1))))) then (scat x5.1 (ByteArray.mk #[125]) >>= fun v18 =>
 some (.inl (v18, (IntKind.i64.wrap (x5.2 + 1)))))
 else (some (.inr (.inr x5.1)))

noncomputable def z4x (v1 : Int) (v3 : ByteArray) (x7 : (ByteArray × Int)) : Option (Sum (ByteArray × Int) (Sum Bool ByteArray)) :=
 if (decide (x7.2 < (IntKind.i64.wrap (20 + (IntKind.i64.wrap v1))))) then (scat x7.1 v3 >>= fun v23 =>
 some (.inl (v23, (IntKind.i64.wrap (x7.2 + 1)))))
 else (some (.inr (.inr x7.1)))

noncomputable def z5t (v1 : Int) (x9 : (ByteArray × Int)) : Option (Sum (ByteArray × Int) (Sum Bool ByteArray)) :=
 if (decide (x9.2 < (IntKind.i64.wrap (20 + (IntKind.i64.wrap v1))))) then (scat x9.1 (ByteArray.mk #[41]) >>= fun v30 =>
 some (.inl (v30, (IntKind.i64.wrap (x9.2 + 1)))))
 else (some (.inr (.inr x9.1)))

noncomputable def z4j (v1 : Int) (x11 : (ByteArray × Int)) : Option (Sum (ByteArray × Int) (Sum Bool ByteArray)) :=
 if (decide (x11.2 < (IntKind.i64.wrap (20 + (IntKind.i64.wrap v1))))) then (scat x11.1 (ByteArray.mk #[125]) >>= fun v35 =>
 some (.inl (v35, (IntKind.i64.wrap (x11.2 + 1)))))
 else (some (.inr (.inr x11.1)))

noncomputable def z5w (a0 : Int) (a1 : Int) : Option Bool :=
 rem (IntKind.u64.wrap a0) 9 >>= fun v1 =>
 rem (IntKind.u64.wrap a1) 3 >>= fun v2 =>
 idx [(ByteArray.mk #[45]), (ByteArray.mk #[40]), (ByteArray.mk #[119, 104, 105, 108, 101, 40, 49, 61, 61, 49, 41, 123])] (IntKind.i64.wrap v2) >>= fun v3 =>
 rem (IntKind.u64.wrap a1) 3 >>= fun v4 =>
 if (decide ((IntKind.i64.wrap v4) < 2)) then (scat (ByteArray.mk #[112, 114, 111, 99, 32, 112, 123]) (ByteArray.mk #[120, 61]) >>= fun v5 =>
 iter (z49 v1 v3) (v5, 0) >>= Sum.elim (fun _ => none) (fun j1 =>
 rem (IntKind.u64.wrap a1) 3 >>= fun v7 =>
 if ((IntKind.i64.wrap v7) == 0) then (scat j1 (ByteArray.mk #[49, 59, 125]) >>= fun v8 =>
 z33 v8 >>= fun v9 =>
 if (decide ((IntKind.i64.wrap (20 + (IntKind.i64.wrap v1))) ≤ 24)) then (((z2t >>= fun v10 =>
 if v10 then (some (v9.2.2 == 0))
 else (some false) : Option Bool) >>= fun j2 =>
 some j2))
 else (z2t >>= fun v11 =>
 if v11 then (if (v9.2.2 == 6) then (some (v9.2.1 == (IntKind.i64.wrap ((IntKind.i64.wrap ((IntKind.i64.wrap ((v5.size : Int) + (IntKind.i64.wrap (24 * (v3.size : Int))))) + (v3.size : Int))) - 1))))
 else (some false))
 else (some false)))
 else (if ((IntKind.i64.wrap v7) == 1) then (scat j1 (ByteArray.mk #[49]) >>= fun v12 =>
 iter (z4w v1) (v12, 0) >>= Sum.elim (fun _ => none) (fun j3 =>
 scat j3 (ByteArray.mk #[59, 125]) >>= fun v14 =>
 z33 v14 >>= fun v15 =>
 if (decide ((IntKind.i64.wrap (20 + (IntKind.i64.wrap v1))) ≤ 24)) then (((z2t >>= fun v16 =>
 if v16 then (some (v15.2.2 == 0))
 else (some false) : Option Bool) >>= fun j4 =>
 some j4))
 else (z2t >>= fun v17 =>
 if v17 then (if (v15.2.2 == 6) then (some (v15.2.1 == (IntKind.i64.wrap ((IntKind.i64.wrap ((IntKind.i64.wrap ((v5.size : Int) + (IntKind.i64.wrap (24 * (v3.size : Int))))) + (v3.size : Int))) - 1))))
 else (some false))
 else (some false))))
 else (iter (z5s v1) (j1, 0) >>= Sum.elim (fun _ => none) (fun j5 =>
 scat j5 (ByteArray.mk #[125]) >>= fun v19 =>
 z33 v19 >>= fun v20 =>
 if (decide ((IntKind.i64.wrap (20 + (IntKind.i64.wrap v1))) ≤ 24)) then (((z2t >>= fun v21 =>
 if v21 then (some (v20.2.2 == 0))
 else (some false) : Option Bool) >>= fun j6 =>
 some j6))
 else (z2t >>= fun v22 =>
 if v22 then (if (v20.2.2 == 6) then (some (v20.2.1 == (IntKind.i64.wrap ((IntKind.i64.wrap ((IntKind.i64.wrap ((v5.size : Int) + (IntKind.i64.wrap (24 * (v3.size : Int))))) + (v3.size : Int))) - 1))))
 else (some false))
 else (some false)))))))
 else (iter (z4x v1 v3) ((ByteArray.mk #[112, 114, 111, 99, 32, 112, 123]), 0) >>= Sum.elim (fun _ => none) (fun j7 =>
 rem (IntKind.u64.wrap a1) 3 >>= fun v24 =>
 if ((IntKind.i64.wrap v24) == 0) then (scat j7 (ByteArray.mk #[49, 59, 125]) >>= fun v25 =>
 z33 v25 >>= fun v26 =>
 if (decide ((IntKind.i64.wrap (20 + (IntKind.i64.wrap v1))) ≤ 24)) then (((z2t >>= fun v27 =>
 if v27 then (some (v26.2.2 == 0))
 else (some false) : Option Bool) >>= fun j8 =>
 some j8))
 else (z2t >>= fun v28 =>
 if v28 then (if (v26.2.2 == 6) then (some (v26.2.1 == (IntKind.i64.wrap ((IntKind.i64.wrap ((IntKind.i64.wrap (((ByteArray.mk #[112, 114, 111, 99, 32, 112, 123]).size : Int) + (IntKind.i64.wrap (24 * (v3.size : Int))))) + (v3.size : Int))) - 1))))
 else (some false))
 else (some false)))
 else (if ((IntKind.i64.wrap v24) == 1) then (scat j7 (ByteArray.mk #[49]) >>= fun v29 =>
 iter (z5t v1) (v29, 0) >>= Sum.elim (fun _ => none) (fun j9 =>
 scat j9 (ByteArray.mk #[59, 125]) >>= fun v31 =>
 z33 v31 >>= fun v32 =>
 if (decide ((IntKind.i64.wrap (20 + (IntKind.i64.wrap v1))) ≤ 24)) then (((z2t >>= fun v33 =>
 if v33 then (some (v32.2.2 == 0))
 else (some false) : Option Bool) >>= fun j10 =>
 some j10))
 else (z2t >>= fun v34 =>
 if v34 then (if (v32.2.2 == 6) then (some (v32.2.1 == (IntKind.i64.wrap ((IntKind.i64.wrap ((IntKind.i64.wrap (((ByteArray.mk #[112, 114, 111, 99, 32, 112, 123]).size : Int) + (IntKind.i64.wrap (24 * (v3.size : Int))))) + (v3.size : Int))) - 1))))
 else (some false))
 else (some false))))
 else (iter (z4j v1) (j7, 0) >>= Sum.elim (fun _ => none) (fun j11 =>
 scat j11 (ByteArray.mk #[125]) >>= fun v36 =>
 z33 v36 >>= fun v37 =>
 if (decide ((IntKind.i64.wrap (20 + (IntKind.i64.wrap v1))) ≤ 24)) then (((z2t >>= fun v38 =>
 if v38 then (some (v37.2.2 == 0))
 else (some false) : Option Bool) >>= fun j12 =>
 some j12))
 else (z2t >>= fun v39 =>
 if v39 then (if (v37.2.2 == 6) then (some (v37.2.1 == (IntKind.i64.wrap ((IntKind.i64.wrap ((IntKind.i64.wrap (((ByteArray.mk #[112, 114, 111, 99, 32, 112, 123]).size : Int) + (IntKind.i64.wrap (24 * (v3.size : Int))))) + (v3.size : Int))) - 1))))
 else (some false))
 else (some false)))))))

def z65 (r : Bool) : List XV := [xB r]

def z7d (r : Bool) : z0q := []

noncomputable def z3y (r : Bool) : Tg := .r false Tryd.f3.results.toList 0 (z65 r) (z7d r)
end Go.Proofs.YtokjbpmjdcbogaaDoor.Abs
