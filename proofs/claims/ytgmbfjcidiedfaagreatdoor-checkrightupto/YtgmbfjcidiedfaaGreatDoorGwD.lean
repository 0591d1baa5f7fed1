/- Gw: the functions, told by typed values. -/
import Derived.Test.YtgmbfjcidiedfaaGreatDoorHandA
import Derived.Test.YtgmbfjcidiedfaaGreatDoorEvH
import Derived.Test.YtgmbfjcidiedfaaGreatDoorProg
namespace Go.Proofs.YtgmbfjcidiedfaaGreatDoor.Abs
open Go Go.RowKit
set_option linter.unusedVariables false

structure z4k where
 Kind : Int
 Size : Int
 From : Int
 To : Int
 Tags : Int
 Rule : (List (List Int))
structure z34 where
 Kind : Int
 Num : Int
 Var : Int
 Kids : (List z34)
structure z8d where
 Op : Int
 L : z34
 R : z34
mutual
inductive z5w where
 | mk (Tag : Int) (Var : Int) (Body : (List z0v))
inductive z0v where
 | mk (Kind : Int) (Var : Int) (Chan : Int) (Tag : Int) (E : z34) (C : z8d) (Body : (List z0v)) (Else : (List z0v)) (Arms : (List z5w))
end
def z5w.Tag : z5w → Int
 | .mk x _ _ => x
def z5w.Var : z5w → Int
 | .mk _ x _ => x
def z5w.Body : z5w → (List z0v)
 | .mk _ _ x => x
def z0v.Kind : z0v → Int
 | .mk x _ _ _ _ _ _ _ _ => x
def z0v.Var : z0v → Int
 | .mk _ x _ _ _ _ _ _ _ => x
def z0v.Chan : z0v → Int
 | .mk _ _ x _ _ _ _ _ _ => x
def z0v.Tag : z0v → Int
 | .mk _ _ _ x _ _ _ _ _ => x
def z0v.E : z0v → z34
 | .mk _ _ _ _ x _ _ _ _ => x
def z0v.C : z0v → z8d
 | .mk _ _ _ _ _ x _ _ _ => x
def z0v.Body : z0v → (List z0v)
 | .mk _ _ _ _ _ _ x _ _ => x
def z0v.Else : z0v → (List z0v)
 | .mk _ _ _ _ _ _ _ x _ => x
def z0v.Arms : z0v → (List z5w)
 | .mk _ _ _ _ _ _ _ _ x => x
structure ze5 where
 Vars : Int
 Body : (List z0v)
structure z0m where
 Kind : Int
 Size : Int
 From : Int
 To : Int
 Tags : Int
 Rule : (List (List Int))
structure z0h where
 Kind : Int
 Num : Int
 Var : Int
 Kids : (List z0h)
structure z4y where
 Op : Int
 L : z0h
 R : z0h
mutual
inductive z2i where
 | mk (Tag : Int) (Var : Int) (Body : (List z09))
inductive z09 where
 | mk (Kind : Int) (Var : Int) (Chan : Int) (Tag : Int) (E : z0h) (C : z4y) (Body : (List z09)) (Else : (List z09)) (Arms : (List z2i))
end
def z2i.Tag : z2i → Int
 | .mk x _ _ => x
def z2i.Var : z2i → Int
 | .mk _ x _ => x
def z2i.Body : z2i → (List z09)
 | .mk _ _ x => x
def z09.Kind : z09 → Int
 | .mk x _ _ _ _ _ _ _ _ => x
def z09.Var : z09 → Int
 | .mk _ x _ _ _ _ _ _ _ => x
def z09.Chan : z09 → Int
 | .mk _ _ x _ _ _ _ _ _ => x
def z09.Tag : z09 → Int
 | .mk _ _ _ x _ _ _ _ _ => x
def z09.E : z09 → z0h
 | .mk _ _ _ _ x _ _ _ _ => x
def z09.C : z09 → z4y
 | .mk _ _ _ _ _ x _ _ _ => x
def z09.Body : z09 → (List z09)
 | .mk _ _ _ _ _ _ x _ _ => x
def z09.Else : z09 → (List z09)
 | .mk _ _ _ _ _ _ _ x _ => x
def z09.Arms : z09 → (List z2i)
 | .mk _ _ _ _ _ _ _ _ x => x
structure z0w where
 Vars : Int
 Body : (List z09)
structure z4o where
 Name : ByteArray
 Kind : Int
 Size : Int
 From : ByteArray
 To : ByteArray
 Tags : (List ByteArray)
structure z8e where
 From : Int
 Tag : ByteArray
 To : Int
structure z5i where
 Chan : ByteArray
 Moves : (List z8e)
structure z05 where
 Kind : Int
 Num : Int
 Name : ByteArray
 Kids : (List z05)
structure z5j where
 Op : Int
 L : z05
 R : z05
mutual
inductive z2n where
 | mk (Tag : ByteArray) (Var : ByteArray) (Body : (List z06))
inductive z06 where
 | mk (Kind : Int) (Name : ByteArray) (Tag : ByteArray) (E : z05) (C : z5j) (Body : (List z06)) (Else : (List z06)) (Arms : (List z2n))
end
def z2n.Tag : z2n → ByteArray
 | .mk x _ _ => x
def z2n.Var : z2n → ByteArray
 | .mk _ x _ => x
def z2n.Body : z2n → (List z06)
 | .mk _ _ x => x
def z06.Kind : z06 → Int
 | .mk x _ _ _ _ _ _ _ => x
def z06.Name : z06 → ByteArray
 | .mk _ x _ _ _ _ _ _ => x
def z06.Tag : z06 → ByteArray
 | .mk _ _ x _ _ _ _ _ => x
def z06.E : z06 → z05
 | .mk _ _ _ x _ _ _ _ => x
def z06.C : z06 → z5j
 | .mk _ _ _ _ x _ _ _ => x
def z06.Body : z06 → (List z06)
 | .mk _ _ _ _ _ x _ _ => x
def z06.Else : z06 → (List z06)
 | .mk _ _ _ _ _ _ x _ => x
def z06.Arms : z06 → (List z2n)
 | .mk _ _ _ _ _ _ _ x => x
structure z59 where
 Name : ByteArray
 Vars : (List ByteArray)
 Body : (List z06)
structure z0n where
 Kind : Int
 Text : ByteArray
 Num : Int
 At : Int
structure z2k where
 Chans : (List z4k)
 Procs : (List ze5)
structure z2l where
 Chans : (List z4o)
 Rules : (List z5i)
 Procs : (List z59)
def z1o (x : z0n) : List PV := [.int .i64 x.Kind, .str x.Text, .int .i64 x.Num, .int .i64 x.At]
structure z00 where
 f_l : (List z0n)
 f_end : Int
 f_e : Int
 f_at : Int
 f_deep : Int
 f_in : Int
def z03 (x : z00) : List PV := [.sl (List.map z1o x.f_l), .int .i64 x.f_end, .int .i64 x.f_e, .int .i64 x.f_at, .int .i64 x.f_deep, .int .i64 x.f_in]
def z0a (x : ByteArray) : List PV := [.str x]
def z0e (x : z4o) : List PV := [.str x.Name, .int .i64 x.Kind, .int .i64 x.Size, .str x.From, .str x.To, .sl (List.map z0a x.Tags)]
def z9m (x : z8e) : List PV := [.int .i64 x.From, .str x.Tag, .int .i64 x.To]
def z0i (x : z5i) : List PV := [.str x.Chan, .sl (List.map z9m x.Moves)]
mutual
def z2s : z05 → List PV
 | .mk z_Kind z_Num z_Name z_Kids => [.int .i64 z_Kind, .int .i64 z_Num, .str z_Name, .sl (zff z_Kids)]
def zff : List z05 → List (List PV)
 | [] => []
 | x :: xs => z2s x :: zff xs
end
theorem zh9 : ∀ l, zff l = List.map z2s l
 | [] => rfl
 | x :: xs => by rw [zff, zh9 xs]; rfl
theorem z65 (x : z05) : z2s x = [.int .i64 x.Kind, .int .i64 x.Num, .str x.Name, .sl (List.map z2s x.Kids)] := by
 cases x; rw [z2s, zh9]
mutual
def z4p : z2n → List PV
 | .mk z_Tag z_Var z_Body => [.str z_Tag, .str z_Var, .sl (za0 z_Body)]
def zem : List z2n → List (List PV)
 | [] => []
 | x :: xs => z4p x :: zem xs
def z22 : z06 → List PV
 | .mk z_Kind z_Name z_Tag z_E z_C z_Body z_Else z_Arms => [.int .i64 z_Kind, .str z_Name, .str z_Tag, .int .i64 z_E.Kind, .int .i64 z_E.Num, .str z_E.Name, .sl (List.map z2s z_E.Kids), .int .i64 z_C.Op, .int .i64 z_C.L.Kind, .int .i64 z_C.L.Num, .str z_C.L.Name, .sl (List.map z2s z_C.L.Kids), .int .i64 z_C.R.Kind, .int .i64 z_C.R.Num, .str z_C.R.Name, .sl (List.map z2s z_C.R.Kids), .sl (za0 z_Body), .sl (za0 z_Else), .sl (zem z_Arms)]
def za0 : List z06 → List (List PV)
 | [] => []
 | x :: xs => z22 x :: za0 xs
end
theorem zir : ∀ l, zem l = List.map z4p l
 | [] => by rw [zem]; rfl
 | x :: xs => by rw [zem, zir xs]; rfl
theorem zen : ∀ l, za0 l = List.map z22 l
 | [] => by rw [za0]; rfl
 | x :: xs => by rw [za0, zen xs]; rfl
theorem zdd (x : z2n) : z4p x = [.str x.Tag, .str x.Var, .sl (List.map z22 x.Body)] := by
 cases x; rw [z4p]; simp only [zen]; first | done | rfl
theorem zk7 (x : z2n) : (z4p x).length = 3 := by rw [zdd]; rfl
theorem ze6 (x : z06) : z22 x = [.int .i64 x.Kind, .str x.Name, .str x.Tag, .int .i64 x.E.Kind, .int .i64 x.E.Num, .str x.E.Name, .sl (List.map z2s x.E.Kids), .int .i64 x.C.Op, .int .i64 x.C.L.Kind, .int .i64 x.C.L.Num, .str x.C.L.Name, .sl (List.map z2s x.C.L.Kids), .int .i64 x.C.R.Kind, .int .i64 x.C.R.Num, .str x.C.R.Name, .sl (List.map z2s x.C.R.Kids), .sl (List.map z22 x.Body), .sl (List.map z22 x.Else), .sl (List.map z4p x.Arms)] := by
 cases x; rw [z22]; simp only [zir, zen]; first | done | rfl
theorem znu (x : z06) : (z22 x).length = 19 := by rw [ze6]; rfl

def zi5 (x : z5j) : List PV := [.int .i64 x.Op, .int .i64 x.L.Kind, .int .i64 x.L.Num, .str x.L.Name, .sl (List.map z2s x.L.Kids), .int .i64 x.R.Kind, .int .i64 x.R.Num, .str x.R.Name, .sl (List.map z2s x.R.Kids)]
def z0g (x : z59) : List PV := [.str x.Name, .sl (List.map z0a x.Vars), .sl (List.map z22 x.Body)]
def z6d (x : z2l) : List PV := [.sl (List.map z0e x.Chans), .sl (List.map z0i x.Rules), .sl (List.map z0g x.Procs)]
structure z10 where
 Chans : (List z0m)
 Procs : (List z0w)
structure z01 where
 f_out : (List ByteArray)
 f_form : Bool
 f_deep : Bool
 f_blocks : Int
 f_parens : Int
structure z02 where
 f_s : z2l
 f_p : z10
 f_chans : (List ByteArray)
 f_procs : (List ByteArray)
 f_proc : Int
 f_vars : (List ByteArray)
 f_e : Int
def zj6 (x : Int) : List PV := [.int .i64 x]
def z82 (x : (List Int)) : List PV := [.sl (List.map zj6 x)]
def z04 (x : z0m) : List PV := [.int .i64 x.Kind, .int .i64 x.Size, .int .i64 x.From, .int .i64 x.To, .int .i64 x.Tags, .sl (List.map z82 x.Rule)]
mutual
def z14 : z0h → List PV
 | .mk z_Kind z_Num z_Var z_Kids => [.int .i64 z_Kind, .int .i64 z_Num, .int .i64 z_Var, .sl (zda z_Kids)]
def zda : List z0h → List (List PV)
 | [] => []
 | x :: xs => z14 x :: zda xs
end
theorem zg3 : ∀ l, zda l = List.map z14 l
 | [] => rfl
 | x :: xs => by rw [zda, zg3 xs]; rfl
theorem z90 (x : z0h) : z14 x = [.int .i64 x.Kind, .int .i64 x.Num, .int .i64 x.Var, .sl (List.map z14 x.Kids)] := by
 cases x; rw [z14, zg3]
theorem zb6 (x : z0h) : (z14 x).length = 4 := by rw [z90]; rfl
mutual
def z2o : z2i → List PV
 | .mk z_Tag z_Var z_Body => [.int .i64 z_Tag, .int .i64 z_Var, .sl (z8r z_Body)]
def zca : List z2i → List (List PV)
 | [] => []
 | x :: xs => z2o x :: zca xs
def z1g : z09 → List PV
 | .mk z_Kind z_Var z_Chan z_Tag z_E z_C z_Body z_Else z_Arms => [.int .i64 z_Kind, .int .i64 z_Var, .int .i64 z_Chan, .int .i64 z_Tag, .int .i64 z_E.Kind, .int .i64 z_E.Num, .int .i64 z_E.Var, .sl (List.map z14 z_E.Kids), .int .i64 z_C.Op, .int .i64 z_C.L.Kind, .int .i64 z_C.L.Num, .int .i64 z_C.L.Var, .sl (List.map z14 z_C.L.Kids), .int .i64 z_C.R.Kind, .int .i64 z_C.R.Num, .int .i64 z_C.R.Var, .sl (List.map z14 z_C.R.Kids), .sl (z8r z_Body), .sl (z8r z_Else), .sl (zca z_Arms)]
def z8r : List z09 → List (List PV)
 | [] => []
 | x :: xs => z1g x :: z8r xs
end
theorem zgv : ∀ l, zca l = List.map z2o l
 | [] => by rw [zca]; rfl
 | x :: xs => by rw [zca, zgv xs]; rfl
theorem zcp : ∀ l, z8r l = List.map z1g l
 | [] => by rw [z8r]; rfl
 | x :: xs => by rw [z8r, zcp xs]; rfl
theorem zdb (x : z2i) : z2o x = [.int .i64 x.Tag, .int .i64 x.Var, .sl (List.map z1g x.Body)] := by
 cases x; rw [z2o]; simp only [zcp]; first | done | rfl
theorem zha (x : z2i) : (z2o x).length = 3 := by rw [zdb]; rfl
theorem zcb (x : z09) : z1g x = [.int .i64 x.Kind, .int .i64 x.Var, .int .i64 x.Chan, .int .i64 x.Tag, .int .i64 x.E.Kind, .int .i64 x.E.Num, .int .i64 x.E.Var, .sl (List.map z14 x.E.Kids), .int .i64 x.C.Op, .int .i64 x.C.L.Kind, .int .i64 x.C.L.Num, .int .i64 x.C.L.Var, .sl (List.map z14 x.C.L.Kids), .int .i64 x.C.R.Kind, .int .i64 x.C.R.Num, .int .i64 x.C.R.Var, .sl (List.map z14 x.C.R.Kids), .sl (List.map z1g x.Body), .sl (List.map z1g x.Else), .sl (List.map z2o x.Arms)] := by
 cases x; rw [z1g]; simp only [zgv, zcp]; first | done | rfl
theorem zgw (x : z09) : (z1g x).length = 20 := by rw [zcb]; rfl

def z0b (x : z0w) : List PV := [.int .i64 x.Vars, .sl (List.map z1g x.Body)]
def zde (x : z4y) : List PV := [.int .i64 x.Op, .int .i64 x.L.Kind, .int .i64 x.L.Num, .int .i64 x.L.Var, .sl (List.map z14 x.L.Kids), .int .i64 x.R.Kind, .int .i64 x.R.Num, .int .i64 x.R.Var, .sl (List.map z14 x.R.Kids)]
def z8m (x : z10) : List PV := [.sl (List.map z04 x.Chans), .sl (List.map z0b x.Procs)]
structure z1q where
 f_p : z10
 f_proc : Int
 f_vars : Int
def z1t (x : z1q) : List PV := [.sl (List.map z04 x.f_p.Chans), .sl (List.map z0b x.f_p.Procs), .int .i64 x.f_proc, .int .i64 x.f_vars]
def zk8 (x : (Nat → Bool)) : List PV := [.bool (x 0), .bool (x 1), .bool (x 2), .bool (x 3)]
def z1n (x : z4k) : List PV := [.int .i64 x.Kind, .int .i64 x.Size, .int .i64 x.From, .int .i64 x.To, .int .i64 x.Tags, .sl (List.map z82 x.Rule)]
mutual
def z43 : z34 → List PV
 | .mk z_Kind z_Num z_Var z_Kids => [.int .i64 z_Kind, .int .i64 z_Num, .int .i64 z_Var, .sl (zfg z_Kids)]
def zfg : List z34 → List (List PV)
 | [] => []
 | x :: xs => z43 x :: zfg xs
end
theorem zhb : ∀ l, zfg l = List.map z43 l
 | [] => rfl
 | x :: xs => by rw [zfg, zhb xs]; rfl
theorem z7u (x : z34) : z43 x = [.int .i64 x.Kind, .int .i64 x.Num, .int .i64 x.Var, .sl (List.map z43 x.Kids)] := by
 cases x; rw [z43, zhb]
theorem znv (x : z34) : (z43 x).length = 4 := by rw [z7u]; rfl
mutual
def z3s : z5w → List PV
 | .mk z_Tag z_Var z_Body => [.int .i64 z_Tag, .int .i64 z_Var, .sl (za1 z_Body)]
def zeo : List z5w → List (List PV)
 | [] => []
 | x :: xs => z3s x :: zeo xs
def z19 : z0v → List PV
 | .mk z_Kind z_Var z_Chan z_Tag z_E z_C z_Body z_Else z_Arms => [.int .i64 z_Kind, .int .i64 z_Var, .int .i64 z_Chan, .int .i64 z_Tag, .int .i64 z_E.Kind, .int .i64 z_E.Num, .int .i64 z_E.Var, .sl (List.map z43 z_E.Kids), .int .i64 z_C.Op, .int .i64 z_C.L.Kind, .int .i64 z_C.L.Num, .int .i64 z_C.L.Var, .sl (List.map z43 z_C.L.Kids), .int .i64 z_C.R.Kind, .int .i64 z_C.R.Num, .int .i64 z_C.R.Var, .sl (List.map z43 z_C.R.Kids), .sl (za1 z_Body), .sl (za1 z_Else), .sl (zeo z_Arms)]
def za1 : List z0v → List (List PV)
 | [] => []
 | x :: xs => z19 x :: za1 xs
end
theorem zis : ∀ l, zeo l = List.map z3s l
 | [] => by rw [zeo]; rfl
 | x :: xs => by rw [zeo, zis xs]; rfl
theorem zep : ∀ l, za1 l = List.map z19 l
 | [] => by rw [za1]; rfl
 | x :: xs => by rw [za1, zep xs]; rfl
theorem zbv (x : z5w) : z3s x = [.int .i64 x.Tag, .int .i64 x.Var, .sl (List.map z19 x.Body)] := by
 cases x; rw [z3s]; simp only [zep]; first | done | rfl
theorem zp4 (x : z5w) : (z3s x).length = 3 := by rw [zbv]; rfl
theorem ze7 (x : z0v) : z19 x = [.int .i64 x.Kind, .int .i64 x.Var, .int .i64 x.Chan, .int .i64 x.Tag, .int .i64 x.E.Kind, .int .i64 x.E.Num, .int .i64 x.E.Var, .sl (List.map z43 x.E.Kids), .int .i64 x.C.Op, .int .i64 x.C.L.Kind, .int .i64 x.C.L.Num, .int .i64 x.C.L.Var, .sl (List.map z43 x.C.L.Kids), .int .i64 x.C.R.Kind, .int .i64 x.C.R.Num, .int .i64 x.C.R.Var, .sl (List.map z43 x.C.R.Kids), .sl (List.map z19 x.Body), .sl (List.map z19 x.Else), .sl (List.map z3s x.Arms)] := by
 cases x; rw [z19]; simp only [zis, zep]; first | done | rfl
theorem zit (x : z0v) : (z19 x).length = 20 := by rw [ze7]; rfl

def z36 (x : ze5) : List PV := [.int .i64 x.Vars, .sl (List.map z19 x.Body)]
def z25 (x : z2k) : List PV := [.sl (List.map z1n x.Chans), .sl (List.map z36 x.Procs)]
def zee (x : z8d) : List PV := [.int .i64 x.Op, .int .i64 x.L.Kind, .int .i64 x.L.Num, .int .i64 x.L.Var, .sl (List.map z43 x.L.Kids), .int .i64 x.R.Kind, .int .i64 x.R.Num, .int .i64 x.R.Var, .sl (List.map z43 x.R.Kids)]

def z0p (x : z05) : List PV := [.int .i64 x.Kind, .int .i64 x.Num, .str x.Name, .sl (List.map z2s x.Kids)]
def z47 (x : z06) : List PV := [.int .i64 x.Kind, .str x.Name, .str x.Tag, .int .i64 x.E.Kind, .int .i64 x.E.Num, .str x.E.Name, .sl (List.map z2s x.E.Kids), .int .i64 x.C.Op, .int .i64 x.C.L.Kind, .int .i64 x.C.L.Num, .str x.C.L.Name, .sl (List.map z2s x.C.L.Kids), .int .i64 x.C.R.Kind, .int .i64 x.C.R.Num, .str x.C.R.Name, .sl (List.map z2s x.C.R.Kids), .sl (List.map z22 x.Body), .sl (List.map z22 x.Else), .sl (List.map z4p x.Arms)]
def zn9 (x : z2n) : List PV := [.str x.Tag, .str x.Var, .sl (List.map z22 x.Body)]
def z6e (x : z0h) : List PV := [.int .i64 x.Kind, .int .i64 x.Num, .int .i64 x.Var, .sl (List.map z14 x.Kids)]
def z7d (x : z09) : List PV := [.int .i64 x.Kind, .int .i64 x.Var, .int .i64 x.Chan, .int .i64 x.Tag, .int .i64 x.E.Kind, .int .i64 x.E.Num, .int .i64 x.E.Var, .sl (List.map z14 x.E.Kids), .int .i64 x.C.Op, .int .i64 x.C.L.Kind, .int .i64 x.C.L.Num, .int .i64 x.C.L.Var, .sl (List.map z14 x.C.L.Kids), .int .i64 x.C.R.Kind, .int .i64 x.C.R.Num, .int .i64 x.C.R.Var, .sl (List.map z14 x.C.R.Kids), .sl (List.map z1g x.Body), .sl (List.map z1g x.Else), .sl (List.map z2o x.Arms)]
def zna (x : z2i) : List PV := [.int .i64 x.Tag, .int .i64 x.Var, .sl (List.map z1g x.Body)]
def z7g (x : z0v) : List PV := [.int .i64 x.Kind, .int .i64 x.Var, .int .i64 x.Chan, .int .i64 x.Tag, .int .i64 x.E.Kind, .int .i64 x.E.Num, .int .i64 x.E.Var, .sl (List.map z43 x.E.Kids), .int .i64 x.C.Op, .int .i64 x.C.L.Kind, .int .i64 x.C.L.Num, .int .i64 x.C.L.Var, .sl (List.map z43 x.C.L.Kids), .int .i64 x.C.R.Kind, .int .i64 x.C.R.Num, .int .i64 x.C.R.Var, .sl (List.map z43 x.C.R.Kids), .sl (List.map z19 x.Body), .sl (List.map z19 x.Else), .sl (List.map z3s x.Arms)]
def z5x (x : z34) : List PV := [.int .i64 x.Kind, .int .i64 x.Num, .int .i64 x.Var, .sl (List.map z43 x.Kids)]
def zhc (x : z5w) : List PV := [.int .i64 x.Tag, .int .i64 x.Var, .sl (List.map z19 x.Body)]
noncomputable def zef (a0 : Int) : Option Bool :=
 if (decide (a0 ≥ 97)) then (some (decide (a0 ≤ 122)))
 else (some false)

def zdf (r : Bool) : List XV := [xB r]

def zqi (r : Bool) : z0r := []

noncomputable def zg4 (a0 : Int) : Option Bool :=
 if (decide (a0 ≥ 48)) then (some (decide (a0 ≤ 57)))
 else (some false)

def zgi (r : Bool) : List XV := [xB r]

def zrz (r : Bool) : z0r := []

noncomputable def zcq (a0 : ByteArray) (x1 : Int) : Option (Sum Int (Sum Int Int)) :=
 ((if (decide (x1 < (a0.size : Int))) then (bidx a0 x1 >>= fun v1 =>
 zef v1 >>= fun v2 =>
 if v2 then (some true)
 else (bidx a0 x1 >>= fun v3 =>
 zg4 v3 >>= fun v4 =>
 some v4))
 else (some false) : Option Bool) >>= fun j2 =>
 if j2 then (some (.inl (IntKind.i64.wrap (x1 + 1))))
 else (some (.inr (.inr x1))))

noncomputable def zlg (a0 : ByteArray) : Option Int :=
 iter (zcq a0) 0 >>= Sum.elim (fun _ => none) (fun j1 =>
 some j1)

def zhd (r : Int) : List XV := [xI r]

def zqj (r : Int) : z0r := []

noncomputable def zxm (r : Int) : Tg := .r false Tryz.f60.results.toList 0 (zhd r) (zqj r)

noncomputable def zdg (a0 : ByteArray) : Option Bool :=
 if (a0.toList == (ByteArray.mk #[99, 104, 97, 110]).toList) then (some true)
 else (if (a0.toList == (ByteArray.mk #[98, 108, 111, 99, 107]).toList) then (some true)
 else (if (a0.toList == (ByteArray.mk #[100, 114, 111, 112]).toList) then (some true)
 else (if (a0.toList == (ByteArray.mk #[108, 111, 115, 115, 121]).toList) then (some true)
 else (if (a0.toList == (ByteArray.mk #[102, 114, 111, 109]).toList) then (some true)
 else (if (a0.toList == (ByteArray.mk #[116, 111]).toList) then (some true)
 else (if (a0.toList == (ByteArray.mk #[114, 117, 108, 101]).toList) then (some true)
 else (if (a0.toList == (ByteArray.mk #[112, 114, 111, 99]).toList) then (some true)
 else (if (a0.toList == (ByteArray.mk #[118, 97, 114]).toList) then (some true)
 else (if (a0.toList == (ByteArray.mk #[105, 102]).toList) then (some true)
 else (if (a0.toList == (ByteArray.mk #[101, 108, 115, 101]).toList) then (some true)
 else (if (a0.toList == (ByteArray.mk #[119, 104, 105, 108, 101]).toList) then (some true)
 else (if (a0.toList == (ByteArray.mk #[115, 101, 110, 100]).toList) then (some true)
 else (if (a0.toList == (ByteArray.mk #[114, 101, 99, 118]).toList) then (some true)
 else (if (a0.toList == (ByteArray.mk #[97, 115, 115, 101, 114, 116]).toList) then (some true)
 else (if (a0.toList == (ByteArray.mk #[105, 110, 112, 117, 116]).toList) then (some true)
 else (some false))))))))))))))))

def zfx (r : Bool) : List XV := [xB r]

def znw (r : Bool) : z0r := []

noncomputable def zg5 (a0 : ByteArray) : Option (z0n × Int) :=
 if (decide ((a0.size : Int) > 12)) then (some ((z0n.mk 0 (ByteArray.mk #[]) 0 0), 3))
 else (zdg a0 >>= fun v1 =>
 if v1 then (some ((z0n.mk 4 a0 0 0), 0))
 else (some ((z0n.mk 1 a0 0 0), 0)))

def zj7 (r : (z0n × Int)) : List XV := [.agg (bs (z1o r.1)), xI r.2]

def zs0 (r : (z0n × Int)) : z0r := []

def ztx (r : (Int × Int)) : List XV := [xI r.1, xI r.2]

def zs1 (r : Int) : List XV := [xI r]

noncomputable def zk9 (a0 : ByteArray) : Option Int :=
 ((if (decide ((a0.size : Int) > 1)) then (bidx a0 1 >>= fun v1 =>
 if (v1 == 61) then (bidx a0 0 >>= fun v2 =>
 zs2 (ByteArray.mk #[61, 33, 60, 62]) v2 >>= fun v3 =>
 some (decide (v3 ≥ 0)))
 else (some false))
 else (some false) : Option Bool) >>= fun j1 =>
 if j1 then (some 2)
 else (bidx a0 0 >>= fun v4 =>
 zs2 (ByteArray.mk #[123, 125, 40, 41, 59, 44, 46, 61, 60, 62, 43, 45, 42, 47, 37]) v4 >>= fun v5 =>
 if (decide (v5 ≥ 0)) then (some 1)
 else (some 0)))

def zlh (r : Int) : List XV := [xI r]

def zvg (r : Int) : z0r := []

noncomputable def zgj (a0 : ByteArray) : Option (z0n × Int) :=
 bidx a0 0 >>= fun v1 =>
 zef v1 >>= fun v2 =>
 if v2 then (zlg a0 >>= fun v3 =>
 ssub a0 0 v3 >>= fun v4 =>
 zg5 v4 >>= fun v5 =>
 some (v5.1, v5.2))
 else (bidx a0 0 >>= fun v6 =>
 zg4 v6 >>= fun v7 =>
 if v7 then (zlg a0 >>= fun v8 =>
 ssub a0 0 v8 >>= fun v9 =>
 znb v9 >>= fun v10 =>
 some ((z0n.mk 2 v9 v10.1 0), v10.2))
 else (zk9 a0 >>= fun v11 =>
 if (v11 == 0) then (some ((z0n.mk 0 (ByteArray.mk #[]) 0 0), 2))
 else (ssub a0 0 v11 >>= fun v12 =>
 some ((z0n.mk 3 v12 0 0), 0))))

def zli (r : (z0n × Int)) : List XV := [.agg (bs (z1o r.1)), xI r.2]

def zvh (r : (z0n × Int)) : z0r := []

noncomputable def zcr (a0 : ByteArray) (x1 : (Int × (List z0n))) : Option (Sum (Int × (List z0n)) (Sum ((List z0n) × Int × Int) (List z0n))) :=
 if (decide (x1.1 < (a0.size : Int))) then (((bidx a0 x1.1 >>= fun v1 =>
 if (v1 == 32) then (some true)
 else (bidx a0 x1.1 >>= fun v2 =>
 some (v2 == 10)) : Option Bool) >>= fun j2 =>
 if j2 then (some (.inl ((IntKind.i64.wrap (x1.1 + 1)), x1.2)))
 else (ssub a0 x1.1 (a0.size : Int) >>= fun v3 =>
 zgj v3 >>= fun v4 =>
 if (v4.2 != 0) then (some (.inr (.inl ([], x1.1, v4.2))))
 else (app 40 x1.2 [(z0n.mk v4.1.Kind v4.1.Text v4.1.Num x1.1)] >>= fun v5 =>
 some (.inl ((IntKind.i64.wrap (x1.1 + (v4.1.Text.size : Int))), v5))))))
 else (some (.inr (.inr x1.2)))

noncomputable def zhe (a0 : ByteArray) : Option ((List z0n) × Int × Int) :=
 iter (zcr a0) (0, []) >>= Sum.elim (fun r => some r) (fun j1 =>
 if (decide ((j1.length : Int) > 2000)) then (some ([], (a0.size : Int), 4))
 else (some (j1, 0, 0)))

def zhf (r : ((List z0n) × Int × Int)) : List XV := [xL (List.map z1o r.1), xI r.2.1, xI r.2.2]

def zqk (r : ((List z0n) × Int × Int)) : z0r := []

noncomputable def zxn (r : ((List z0n) × Int × Int)) : Tg := .r false Tryz.f15.results.toList 0 (zhf r) (zqk r)

noncomputable def z3n (a0 : z00) (a1 : ByteArray) : Option Bool :=
 if (a0.f_e == 0) then (if (decide ((a0.f_l.length : Int) > 0)) then (idx a0.f_l 0 >>= fun v1 =>
 if (decide (v1.Kind ≥ 3)) then (idx a0.f_l 0 >>= fun v2 =>
 some (v2.Text.toList == a1.toList))
 else (some false))
 else (some false))
 else (some false)

def z5l (r : Bool) : List XV := [xB r]

def z5m (a0 : z00) (r : Bool) : z0r := [oB 67 (bs (z03 a0))]

noncomputable def z0q (a0 : z00) (a1 : ByteArray) : Option (z00 × Bool) :=
 z3n a0 a1 >>= fun v1 =>
 if (!v1) then (some (a0, false))
 else (lsub a0.f_l 1 (a0.f_l.length : Int) >>= fun v2 =>
 some ((z00.mk v2 a0.f_end a0.f_e a0.f_at a0.f_deep a0.f_in), true))

def z2v (r : (z00 × Bool)) : List XV := [xB r.2]

def z2w (r : (z00 × Bool)) : z0r := [oB 67 (bs (z03 r.1))]

noncomputable def z6o (a0 : z00) (a1 : Int) : Option Bool :=
 if (a0.f_e == 0) then (if (decide ((a0.f_l.length : Int) > 0)) then (idx a0.f_l 0 >>= fun v1 =>
 some (v1.Kind == a1))
 else (some false))
 else (some false)

def zak (r : Bool) : List XV := [xB r]

def zal (a0 : z00) (r : Bool) : z0r := [oB 67 (bs (z03 a0))]

noncomputable def z2t (a0 : z00) (a1 : Int) : Option z00 :=
 if (a0.f_e != 0) then (some a0)
 else (if (decide ((a0.f_l.length : Int) > 0)) then (idx a0.f_l 0 >>= fun v1 =>
 some (z00.mk a0.f_l a0.f_end a1 v1.At a0.f_deep a0.f_in))
 else (some (z00.mk a0.f_l a0.f_end a1 a0.f_end a0.f_deep a0.f_in)))

def z5n (r : z00) : List XV := []

def z5o (r : z00) : z0r := [oB 67 (bs (z03 r))]

noncomputable def z6f (a0 : z00) (a1 : Int) : Option (z00 × z0n) :=
 z6o a0 a1 >>= fun v1 =>
 if (!v1) then (z2t a0 5 >>= fun v2 =>
 some (v2, (z0n.mk 0 (ByteArray.mk #[]) 0 0)))
 else (idx a0.f_l 0 >>= fun v3 =>
 lsub a0.f_l 1 (a0.f_l.length : Int) >>= fun v4 =>
 some ((z00.mk v4 a0.f_end a0.f_e a0.f_at a0.f_deep a0.f_in), v3))

def zbd (r : (z00 × z0n)) : List XV := [.agg (bs (z1o r.2))]

def zbe (r : (z00 × z0n)) : z0r := [oB 67 (bs (z03 r.1))]

noncomputable def z0o (a0 : z00) : Option (z00 × ByteArray) :=
 z6f a0 1 >>= fun v1 =>
 some (v1.1, v1.2.Text)

def z27 (r : (z00 × ByteArray)) : List XV := [xS r.2]

def z28 (r : (z00 × ByteArray)) : z0r := [oB 67 (bs (z03 r.1))]

noncomputable def z0u (a0 : (List ByteArray)) (x1 : (Int × (List z0n) × Int × Int × Int × Int × Int)) : Option (Sum (Int × (List z0n) × Int × Int × Int × Int × Int) (Sum (z00 × Int) ((List z0n) × Int × Int × Int × Int × Int))) :=
 if (decide (x1.1 < (a0.length : Int))) then (idx a0 x1.1 >>= fun v1 =>
 z0q (z00.mk x1.2.1 x1.2.2.1 x1.2.2.2.1 x1.2.2.2.2.1 x1.2.2.2.2.2.1 x1.2.2.2.2.2.2) v1 >>= fun v2 =>
 if v2.2 then (some (.inr (.inl (v2.1, x1.1))))
 else (some (.inl ((IntKind.i64.wrap (x1.1 + 1)), v2.1.f_l, v2.1.f_end, v2.1.f_e, v2.1.f_at, v2.1.f_deep, v2.1.f_in))))
 else (some (.inr (.inr (x1.2.1, x1.2.2.1, x1.2.2.2.1, x1.2.2.2.2.1, x1.2.2.2.2.2.1, x1.2.2.2.2.2.2))))

noncomputable def z2j (a0 : (List ByteArray)) (a1010 : z00) : Option (z00 × Int) :=
 iter (z0u a0) (0, a1010.f_l, a1010.f_end, a1010.f_e, a1010.f_at, a1010.f_deep, a1010.f_in) >>= Sum.elim (fun r => some r) (fun j1 =>
 some ((z00.mk j1.1 j1.2.1 j1.2.2.1 j1.2.2.2.1 j1.2.2.2.2.1 j1.2.2.2.2.2), (-1)))

def z4d (r : (z00 × Int)) : List XV := [xI r.2]

def z4e (r : (z00 × Int)) : z0r := [oB 67 (bs (z03 r.1))]

noncomputable def z83 (r : (z00 × Int)) : Tg := .r false Tryz.f65.results.toList 1 (z4d r) (z4e r)

noncomputable def z23 (a0 : z00) (a1 : (List ByteArray)) : Option (z00 × Int) :=
 z2j a1 a0 >>= fun v1 =>
 some (v1.1, v1.2)

def z7s (r : (z00 × Int)) : List XV := [xI r.2]

def z7t (r : (z00 × Int)) : z0r := [oB 67 (bs (z03 r.1))]

noncomputable def z2c (a0 : z00) : Option (z00 × Int) :=
 z6f a0 2 >>= fun v1 =>
 some (v1.1, v1.2.Num)

def z7e (r : (z00 × Int)) : List XV := [xI r.2]

def z7f (r : (z00 × Int)) : z0r := [oB 67 (bs (z03 r.1))]

noncomputable def z08 (a0 : z00) (a1 : ByteArray) : Option z00 :=
 z0q a0 a1 >>= fun v1 =>
 if (!v1.2) then (z2t v1.1 5 >>= fun v2 =>
 some v2)
 else (some v1.1)

def z0x (r : z00) : List XV := []

def z0y (r : z00) : z0r := [oB 67 (bs (z03 r))]

noncomputable def z2g (x1 : ((List z0n) × Int × Int × Int × Int × Int × (List ByteArray))) : Option (Sum ((List z0n) × Int × Int × Int × Int × Int × (List ByteArray)) (Sum (z00 × z4o) ((List z0n) × Int × Int × Int × Int × Int × (List ByteArray)))) :=
 z0q (z00.mk x1.1 x1.2.1 x1.2.2.1 x1.2.2.2.1 x1.2.2.2.2.1 x1.2.2.2.2.2.1) (ByteArray.mk #[44]) >>= fun v12 =>
 if v12.2 then (z0o v12.1 >>= fun v13 =>
 app 16 x1.2.2.2.2.2.2 [v13.2] >>= fun v14 =>
 some (.inl (v13.1.f_l, v13.1.f_end, v13.1.f_e, v13.1.f_at, v13.1.f_deep, v13.1.f_in, v14)))
 else (some (.inr (.inr (v12.1.f_l, v12.1.f_end, v12.1.f_e, v12.1.f_at, v12.1.f_deep, v12.1.f_in, x1.2.2.2.2.2.2))))

noncomputable def z6v (a0 : z00) : Option (z00 × z4o) :=
 z0o a0 >>= fun v1 =>
 z23 v1.1 [(ByteArray.mk #[98, 108, 111, 99, 107]), (ByteArray.mk #[100, 114, 111, 112]), (ByteArray.mk #[108, 111, 115, 115, 121])] >>= fun v2 =>
 if (decide (v2.2 < 0)) then (z2t v2.1 5 >>= fun v3 =>
 some (v3, (z4o.mk v1.2 v2.2 0 (ByteArray.mk #[]) (ByteArray.mk #[]) [])))
 else (z2c v2.1 >>= fun v4 =>
 z08 v4.1 (ByteArray.mk #[102, 114, 111, 109]) >>= fun v5 =>
 z0o v5 >>= fun v6 =>
 z08 v6.1 (ByteArray.mk #[116, 111]) >>= fun v7 =>
 z0o v7 >>= fun v8 =>
 z08 v8.1 (ByteArray.mk #[123]) >>= fun v9 =>
 z0o v9 >>= fun v10 =>
 app 16 [] [v10.2] >>= fun v11 =>
 iter (z2g) (v10.1.f_l, v10.1.f_end, v10.1.f_e, v10.1.f_at, v10.1.f_deep, v10.1.f_in, v11) >>= Sum.elim (fun _ => none) (fun j1 =>
 z08 (z00.mk j1.1 j1.2.1 j1.2.2.1 j1.2.2.2.1 j1.2.2.2.2.1 j1.2.2.2.2.2.1) (ByteArray.mk #[125]) >>= fun v15 =>
 z08 v15 (ByteArray.mk #[59]) >>= fun v16 =>
 some (v16, (z4o.mk v1.2 v2.2 v4.2 v6.2 v8.2 j1.2.2.2.2.2.2))))

def z9t (r : (z00 × z4o)) : List XV := [.agg (bs (z0e r.2))]

def z9u (r : (z00 × z4o)) : z0r := [oB 67 (bs (z03 r.1))]

noncomputable def zh2 (r : (z00 × z4o)) : Tg := .r false Tryz.f17.results.toList 1 (z9t r) (z9u r)

noncomputable def z41 (x1 : ((List z0n) × Int × Int × Int × Int × Int × (List z8e))) : Option (Sum ((List z0n) × Int × Int × Int × Int × Int × (List z8e)) (Sum (z00 × z5i) ((List z0n) × Int × Int × Int × Int × Int × (List z8e)))) :=
 ((if (x1.2.2.1 == 0) then (z3n (z00.mk x1.1 x1.2.1 x1.2.2.1 x1.2.2.2.1 x1.2.2.2.2.1 x1.2.2.2.2.2.1) (ByteArray.mk #[125]) >>= fun v3 =>
 some (!v3))
 else (some false) : Option Bool) >>= fun j2 =>
 if j2 then (z2c (z00.mk x1.1 x1.2.1 x1.2.2.1 x1.2.2.2.1 x1.2.2.2.2.1 x1.2.2.2.2.2.1) >>= fun v4 =>
 z0o v4.1 >>= fun v5 =>
 z2c v5.1 >>= fun v6 =>
 z08 v6.1 (ByteArray.mk #[59]) >>= fun v7 =>
 app 32 x1.2.2.2.2.2.2 [(z8e.mk v4.2 v5.2 v6.2)] >>= fun v8 =>
 some (.inl (v7.f_l, v7.f_end, v7.f_e, v7.f_at, v7.f_deep, v7.f_in, v8)))
 else (some (.inr (.inr (x1.1, x1.2.1, x1.2.2.1, x1.2.2.2.1, x1.2.2.2.2.1, x1.2.2.2.2.2.1, x1.2.2.2.2.2.2)))))

noncomputable def z7x (a0 : z00) : Option (z00 × z5i) :=
 z0o a0 >>= fun v1 =>
 z08 v1.1 (ByteArray.mk #[123]) >>= fun v2 =>
 iter (z41) (v2.f_l, v2.f_end, v2.f_e, v2.f_at, v2.f_deep, v2.f_in, []) >>= Sum.elim (fun _ => none) (fun j1 =>
 z08 (z00.mk j1.1 j1.2.1 j1.2.2.1 j1.2.2.2.1 j1.2.2.2.2.1 j1.2.2.2.2.2.1) (ByteArray.mk #[125]) >>= fun v9 =>
 some (v9, (z5i.mk v1.2 j1.2.2.2.2.2.2)))

def zbf (r : (z00 × z5i)) : List XV := [.agg (bs (z0i r.2))]

def zbg (r : (z00 × z5i)) : z0r := [oB 67 (bs (z03 r.1))]

noncomputable def zj8 (r : (z00 × z5i)) : Tg := .r false Tryz.f18.results.toList 1 (zbf r) (zbg r)

noncomputable def z7h (a0 : z00) : Option (z00 × Bool) :=
 if (a0.f_deep == 24) then (z2t a0 6 >>= fun v1 =>
 some (v1, false))
 else (some ((z00.mk a0.f_l a0.f_end a0.f_e a0.f_at (IntKind.i64.wrap (a0.f_deep + 1)) a0.f_in), true))

def zat (r : (z00 × Bool)) : List XV := [xB r.2]

def zau (r : (z00 × Bool)) : z0r := [oB 67 (bs (z03 r.1))]

def z2x (r : (z00 × z05)) : List XV := [.agg (bs (z0p r.2))]

def z2y (r : (z00 × z05)) : z0r := [oB 67 (bs (z03 r.1))]

noncomputable def z33 (F_parse_reader_expr : z00 → Option (z00 × z05)) (F_parse_reader_chain_parse_reader_term : z00 → (List ByteArray) → Int → Option (z00 × z05)) (F_parse_reader_term : z00 → Option (z00 × z05)) (F_parse_reader_chain_parse_reader_factor : z00 → (List ByteArray) → Int → Option (z00 × z05)) (F_parse_reader_factor : z00 → Option (z00 × z05)) (F_parse_reader_negated : z00 → Option (z00 × z05)) (F_parse_reader_parens : z00 → Option (z00 × z05)) (a2 : (List ByteArray)) (a3 : Int) (x1 : ((List z0n) × Int × Int × Int × Int × Int × Int × Int × ByteArray × (List z05))) : Option (Sum ((List z0n) × Int × Int × Int × Int × Int × Int × Int × ByteArray × (List z05)) (Sum (z00 × z05) ((List z0n) × Int × Int × Int × Int × Int × Int × Int × ByteArray × (List z05)))) :=
 if (x1.2.2.1 == 0) then (z23 (z00.mk x1.1 x1.2.1 x1.2.2.1 x1.2.2.2.1 x1.2.2.2.2.1 x1.2.2.2.2.2.1) a2 >>= fun v2 =>
 if (decide (v2.2 < 0)) then (some (.inr (.inr (v2.1.f_l, v2.1.f_end, v2.1.f_e, v2.1.f_at, v2.1.f_deep, v2.1.f_in, x1.2.2.2.2.2.2.1, x1.2.2.2.2.2.2.2.1, x1.2.2.2.2.2.2.2.2.1, x1.2.2.2.2.2.2.2.2.2))))
 else (F_parse_reader_term v2.1 >>= fun v3 =>
 some (.inl (v3.1.f_l, v3.1.f_end, v3.1.f_e, v3.1.f_at, v3.1.f_deep, v3.1.f_in, (IntKind.i64.wrap (a3 + v2.2)), 0, (ByteArray.mk #[]), [(z05.mk x1.2.2.2.2.2.2.1 x1.2.2.2.2.2.2.2.1 x1.2.2.2.2.2.2.2.2.1 x1.2.2.2.2.2.2.2.2.2), v3.2]))))
 else (some (.inr (.inr (x1.1, x1.2.1, x1.2.2.1, x1.2.2.2.1, x1.2.2.2.2.1, x1.2.2.2.2.2.1, x1.2.2.2.2.2.2.1, x1.2.2.2.2.2.2.2.1, x1.2.2.2.2.2.2.2.2.1, x1.2.2.2.2.2.2.2.2.2))))

def z1a (r : (z00 × z05)) : List XV := [.agg (bs (z0p r.2))]

def z1b (r : (z00 × z05)) : z0r := [oB 67 (bs (z03 r.1))]

noncomputable def zam (r : (z00 × z05)) : Tg := .r false Tryz.f127.results.toList 1 (z1a r) (z1b r)

def z4f (r : (z00 × z05)) : List XV := [.agg (bs (z0p r.2))]

def z4g (r : (z00 × z05)) : z0r := [oB 67 (bs (z03 r.1))]

noncomputable def z2u (F_parse_reader_expr : z00 → Option (z00 × z05)) (F_parse_reader_chain_parse_reader_term : z00 → (List ByteArray) → Int → Option (z00 × z05)) (F_parse_reader_term : z00 → Option (z00 × z05)) (F_parse_reader_chain_parse_reader_factor : z00 → (List ByteArray) → Int → Option (z00 × z05)) (F_parse_reader_factor : z00 → Option (z00 × z05)) (F_parse_reader_negated : z00 → Option (z00 × z05)) (F_parse_reader_parens : z00 → Option (z00 × z05)) (a2 : (List ByteArray)) (a3 : Int) (x1 : ((List z0n) × Int × Int × Int × Int × Int × Int × Int × ByteArray × (List z05))) : Option (Sum ((List z0n) × Int × Int × Int × Int × Int × Int × Int × ByteArray × (List z05)) (Sum (z00 × z05) ((List z0n) × Int × Int × Int × Int × Int × Int × Int × ByteArray × (List z05)))) :=
 if (x1.2.2.1 == 0) then (z23 (z00.mk x1.1 x1.2.1 x1.2.2.1 x1.2.2.2.1 x1.2.2.2.2.1 x1.2.2.2.2.2.1) a2 >>= fun v2 =>
 if (decide (v2.2 < 0)) then (some (.inr (.inr (v2.1.f_l, v2.1.f_end, v2.1.f_e, v2.1.f_at, v2.1.f_deep, v2.1.f_in, x1.2.2.2.2.2.2.1, x1.2.2.2.2.2.2.2.1, x1.2.2.2.2.2.2.2.2.1, x1.2.2.2.2.2.2.2.2.2))))
 else (F_parse_reader_factor v2.1 >>= fun v3 =>
 some (.inl (v3.1.f_l, v3.1.f_end, v3.1.f_e, v3.1.f_at, v3.1.f_deep, v3.1.f_in, (IntKind.i64.wrap (a3 + v2.2)), 0, (ByteArray.mk #[]), [(z05.mk x1.2.2.2.2.2.2.1 x1.2.2.2.2.2.2.2.1 x1.2.2.2.2.2.2.2.2.1 x1.2.2.2.2.2.2.2.2.2), v3.2]))))
 else (some (.inr (.inr (x1.1, x1.2.1, x1.2.2.1, x1.2.2.2.1, x1.2.2.2.2.1, x1.2.2.2.2.2.1, x1.2.2.2.2.2.2.1, x1.2.2.2.2.2.2.2.1, x1.2.2.2.2.2.2.2.2.1, x1.2.2.2.2.2.2.2.2.2))))

def z15 (r : (z00 × z05)) : List XV := [.agg (bs (z0p r.2))]

def z16 (r : (z00 × z05)) : z0r := [oB 67 (bs (z03 r.1))]

noncomputable def z9y (r : (z00 × z05)) : Tg := .r false Tryz.f127.results.toList 1 (z15 r) (z16 r)

def z3j (r : (z00 × z05)) : List XV := [.agg (bs (z0p r.2))]

def z3k (r : (z00 × z05)) : z0r := [oB 67 (bs (z03 r.1))]

def z3w (r : (z00 × z05)) : List XV := [.agg (bs (z0p r.2))]

def z3x (r : (z00 × z05)) : z0r := [oB 67 (bs (z03 r.1))]

def z44 (r : (z00 × z05)) : List XV := [.agg (bs (z0p r.2))]

def z45 (r : (z00 × z05)) : z0r := [oB 67 (bs (z03 r.1))]

mutual
noncomputable def z1l : Nat → z00 → Option (z00 × z05)
  | 0, _ => none
  | n + 1, a0 => (z0f n) a0 [(ByteArray.mk #[43]), (ByteArray.mk #[45])] 4 >>= fun v1 =>
 some (v1.1, v1.2)
noncomputable def z0f : Nat → z00 → (List ByteArray) → Int → Option (z00 × z05)
  | 0, _, _, _ => none
  | n + 1, a0, a2, a3 => (z1f n) a0 >>= fun v1 =>
 iter (z33 (z1l n) (z0f n) (z1f n) (z0c n) (z0s n) (z1h n) (z1m n) a2 a3) (v1.1.f_l, v1.1.f_end, v1.1.f_e, v1.1.f_at, v1.1.f_deep, v1.1.f_in, v1.2.Kind, v1.2.Num, v1.2.Name, v1.2.Kids) >>= Sum.elim (fun _ => none) (fun j1 =>
 some ((z00.mk j1.1 j1.2.1 j1.2.2.1 j1.2.2.2.1 j1.2.2.2.2.1 j1.2.2.2.2.2.1), (z05.mk j1.2.2.2.2.2.2.1 j1.2.2.2.2.2.2.2.1 j1.2.2.2.2.2.2.2.2.1 j1.2.2.2.2.2.2.2.2.2)))
noncomputable def z1f : Nat → z00 → Option (z00 × z05)
  | 0, _ => none
  | n + 1, a0 => (z0c n) a0 [(ByteArray.mk #[42]), (ByteArray.mk #[47]), (ByteArray.mk #[37])] 6 >>= fun v1 =>
 some (v1.1, v1.2)
noncomputable def z0c : Nat → z00 → (List ByteArray) → Int → Option (z00 × z05)
  | 0, _, _, _ => none
  | n + 1, a0, a2, a3 => (z0s n) a0 >>= fun v1 =>
 iter (z2u (z1l n) (z0f n) (z1f n) (z0c n) (z0s n) (z1h n) (z1m n) a2 a3) (v1.1.f_l, v1.1.f_end, v1.1.f_e, v1.1.f_at, v1.1.f_deep, v1.1.f_in, v1.2.Kind, v1.2.Num, v1.2.Name, v1.2.Kids) >>= Sum.elim (fun _ => none) (fun j1 =>
 some ((z00.mk j1.1 j1.2.1 j1.2.2.1 j1.2.2.2.1 j1.2.2.2.2.1 j1.2.2.2.2.2.1), (z05.mk j1.2.2.2.2.2.2.1 j1.2.2.2.2.2.2.2.1 j1.2.2.2.2.2.2.2.2.1 j1.2.2.2.2.2.2.2.2.2)))
noncomputable def z0s : Nat → z00 → Option (z00 × z05)
  | 0, _ => none
  | n + 1, a0 => z3n a0 (ByteArray.mk #[45]) >>= fun v1 =>
 if v1 then ((z1h n) a0 >>= fun v2 =>
 some (v2.1, v2.2))
 else (z3n a0 (ByteArray.mk #[40]) >>= fun v3 =>
 if v3 then ((z1m n) a0 >>= fun v4 =>
 some (v4.1, v4.2))
 else (z6o a0 2 >>= fun v5 =>
 if v5 then (z2c a0 >>= fun v6 =>
 some (v6.1, (z05.mk 1 v6.2 (ByteArray.mk #[]) [])))
 else (z0o a0 >>= fun v7 =>
 some (v7.1, (z05.mk 2 0 v7.2 [])))))
noncomputable def z1h : Nat → z00 → Option (z00 × z05)
  | 0, _ => none
  | n + 1, a0 => z7h a0 >>= fun v1 =>
 if (!v1.2) then (some (v1.1, (z05.mk 0 0 (ByteArray.mk #[]) [])))
 else (z08 v1.1 (ByteArray.mk #[45]) >>= fun v2 =>
 (z0s n) v2 >>= fun v3 =>
 some ((z00.mk v3.1.f_l v3.1.f_end v3.1.f_e v3.1.f_at (IntKind.i64.wrap (v3.1.f_deep - 1)) v3.1.f_in), (z05.mk 3 0 (ByteArray.mk #[]) [v3.2])))
noncomputable def z1m : Nat → z00 → Option (z00 × z05)
  | 0, _ => none
  | n + 1, a0 => z7h a0 >>= fun v1 =>
 if (!v1.2) then (some (v1.1, (z05.mk 0 0 (ByteArray.mk #[]) [])))
 else (z08 v1.1 (ByteArray.mk #[40]) >>= fun v2 =>
 (z1l n) v2 >>= fun v3 =>
 z08 v3.1 (ByteArray.mk #[41]) >>= fun v4 =>
 some ((z00.mk v4.f_l v4.f_end v4.f_e v4.f_at (IntKind.i64.wrap (v4.f_deep - 1)) v4.f_in), v3.2))
end

noncomputable def z5y (a0 : z00) : Option (z00 × z05) := unf fun n => z1l n a0

noncomputable def z7y (a0 : z00) : Option (z00 × z06) :=
 z0o a0 >>= fun v1 =>
 z08 v1.1 (ByteArray.mk #[46]) >>= fun v2 =>
 z0o v2 >>= fun v3 =>
 z08 v3.1 (ByteArray.mk #[40]) >>= fun v4 =>
 z5y v4 >>= fun v5 =>
 z08 v5.1 (ByteArray.mk #[41]) >>= fun v6 =>
 z08 v6 (ByteArray.mk #[59]) >>= fun v7 =>
 some (v7, (z06.mk 4 v1.2 v3.2 v5.2 (z5j.mk 0 (z05.mk 0 0 (ByteArray.mk #[]) []) (z05.mk 0 0 (ByteArray.mk #[]) [])) [] [] []))

def zeq (r : (z00 × z06)) : List XV := [.agg (bs (z47 r.2))]

def zer (r : (z00 × z06)) : z0r := [oB 67 (bs (z03 r.1))]

noncomputable def z5z (a0 : z00) : Option (z00 × z5j) :=
 z08 a0 (ByteArray.mk #[40]) >>= fun v1 =>
 z5y v1 >>= fun v2 =>
 z23 v2.1 [(ByteArray.mk #[61, 61]), (ByteArray.mk #[33, 61]), (ByteArray.mk #[60]), (ByteArray.mk #[60, 61]), (ByteArray.mk #[62]), (ByteArray.mk #[62, 61])] >>= fun v3 =>
 if (decide (v3.2 < 0)) then (z2t v3.1 5 >>= fun v4 =>
 some (v4, (z5j.mk 0 v2.2 (z05.mk 0 0 (ByteArray.mk #[]) []))))
 else (z5y v3.1 >>= fun v5 =>
 z08 v5.1 (ByteArray.mk #[41]) >>= fun v6 =>
 some (v6, (z5j.mk (IntKind.i64.wrap (1 + v3.2)) v2.2 v5.2)))

def z9a (r : (z00 × z5j)) : List XV := [.agg (bs (zi5 r.2))]

def z9b (r : (z00 × z5j)) : z0r := [oB 67 (bs (z03 r.1))]

noncomputable def z72 (a0 : z00) : Option (z00 × z06) :=
 z5z a0 >>= fun v1 =>
 z08 v1.1 (ByteArray.mk #[59]) >>= fun v2 =>
 some (v2, (z06.mk 6 (ByteArray.mk #[]) (ByteArray.mk #[]) (z05.mk 0 0 (ByteArray.mk #[]) []) v1.2 [] [] []))

def zdh (r : (z00 × z06)) : List XV := [.agg (bs (z47 r.2))]

def zdi (r : (z00 × z06)) : z0r := [oB 67 (bs (z03 r.1))]

noncomputable def z7i (a0 : z00) : Option (z00 × z06) :=
 z0o a0 >>= fun v1 =>
 z08 v1.1 (ByteArray.mk #[59]) >>= fun v2 =>
 some (v2, (z06.mk 7 v1.2 (ByteArray.mk #[]) (z05.mk 0 0 (ByteArray.mk #[]) []) (z5j.mk 0 (z05.mk 0 0 (ByteArray.mk #[]) []) (z05.mk 0 0 (ByteArray.mk #[]) [])) [] [] []))

def zdx (r : (z00 × z06)) : List XV := [.agg (bs (z47 r.2))]

def zdy (r : (z00 × z06)) : z0r := [oB 67 (bs (z03 r.1))]

noncomputable def z73 (a0 : z00) : Option (z00 × z06) :=
 z0o a0 >>= fun v1 =>
 z08 v1.1 (ByteArray.mk #[61]) >>= fun v2 =>
 z5y v2 >>= fun v3 =>
 z08 v3.1 (ByteArray.mk #[59]) >>= fun v4 =>
 some (v4, (z06.mk 1 v1.2 (ByteArray.mk #[]) v3.2 (z5j.mk 0 (z05.mk 0 0 (ByteArray.mk #[]) []) (z05.mk 0 0 (ByteArray.mk #[]) [])) [] [] []))

def zdj (r : (z00 × z06)) : List XV := [.agg (bs (z47 r.2))]

def zdk (r : (z00 × z06)) : z0r := [oB 67 (bs (z03 r.1))]

noncomputable def z8n (F_parse_reader_stmts : z00 → Option (z00 × (List z06))) (F_parse_reader_stmt : z00 → Option (z00 × z06 × Bool)) (F_parse_reader_conditional : z00 → Option (z00 × z06)) (F_parse_reader_loop : z00 → Option (z00 × z06)) (F_parse_reader_recv : z00 → Option (z00 × z06)) (F_parse_reader_block : z00 → Option (z00 × (List z06))) (F_parse_reader_arm : z00 → Option (z00 × z2n)) (x1 : ((List z0n) × Int × Int × Int × Int × Int × (List z06))) : Option (Sum ((List z0n) × Int × Int × Int × Int × Int × (List z06)) (Sum (z00 × (List z06)) Unit)) :=
 F_parse_reader_stmt (z00.mk x1.1 x1.2.1 x1.2.2.1 x1.2.2.2.1 x1.2.2.2.2.1 x1.2.2.2.2.2.1) >>= fun v1 =>
 if (!v1.2.2) then (some (.inr (.inl (v1.1, x1.2.2.2.2.2.2))))
 else (app 288 x1.2.2.2.2.2.2 [v1.2.1] >>= fun v2 =>
 some (.inl (v1.1.f_l, v1.1.f_end, v1.1.f_e, v1.1.f_at, v1.1.f_deep, v1.1.f_in, v2)))

def z3d (r : (z00 × (List z06))) : List XV := [xL (List.map z22 r.2)]

def z3e (r : (z00 × (List z06))) : z0r := [oB 67 (bs (z03 r.1))]

noncomputable def zii (r : (z00 × (List z06))) : Tg := .r false Tryz.f36.results.toList 1 (z3d r) (z3e r)

def z4s (r : (z00 × z06 × Bool)) : List XV := [.agg (bs (z47 r.2.1)), xB r.2.2]

def z4t (r : (z00 × z06 × Bool)) : z0r := [oB 67 (bs (z03 r.1))]

def z31 (r : (z00 × z06)) : List XV := [.agg (bs (z47 r.2))]

def z32 (r : (z00 × z06)) : z0r := [oB 67 (bs (z03 r.1))]

def z4u (r : (z00 × z06)) : List XV := [.agg (bs (z47 r.2))]

def z4v (r : (z00 × z06)) : z0r := [oB 67 (bs (z03 r.1))]

noncomputable def z6w (F_parse_reader_stmts : z00 → Option (z00 × (List z06))) (F_parse_reader_stmt : z00 → Option (z00 × z06 × Bool)) (F_parse_reader_conditional : z00 → Option (z00 × z06)) (F_parse_reader_loop : z00 → Option (z00 × z06)) (F_parse_reader_recv : z00 → Option (z00 × z06)) (F_parse_reader_block : z00 → Option (z00 × (List z06))) (F_parse_reader_arm : z00 → Option (z00 × z2n)) (x1 : ((List z0n) × Int × Int × Int × Int × Int × (List z2n))) : Option (Sum ((List z0n) × Int × Int × Int × Int × Int × (List z2n)) (Sum (z00 × z06) ((List z0n) × Int × Int × Int × Int × Int × (List z2n)))) :=
 ((if (x1.2.2.1 == 0) then (z3n (z00.mk x1.1 x1.2.1 x1.2.2.1 x1.2.2.2.1 x1.2.2.2.2.1 x1.2.2.2.2.2.1) (ByteArray.mk #[125]) >>= fun v5 =>
 some (!v5))
 else (some false) : Option Bool) >>= fun j2 =>
 if j2 then (F_parse_reader_arm (z00.mk x1.1 x1.2.1 x1.2.2.1 x1.2.2.2.1 x1.2.2.2.2.1 x1.2.2.2.2.2.1) >>= fun v6 =>
 app 56 x1.2.2.2.2.2.2 [v6.2] >>= fun v7 =>
 some (.inl (v6.1.f_l, v6.1.f_end, v6.1.f_e, v6.1.f_at, v6.1.f_deep, v6.1.f_in, v7)))
 else (some (.inr (.inr (x1.1, x1.2.1, x1.2.2.1, x1.2.2.2.1, x1.2.2.2.2.1, x1.2.2.2.2.2.1, x1.2.2.2.2.2.2)))))

def z4h (r : (z00 × z06)) : List XV := [.agg (bs (z47 r.2))]

def z4i (r : (z00 × z06)) : z0r := [oB 67 (bs (z03 r.1))]

noncomputable def zj9 (r : (z00 × z06)) : Tg := .r false Tryz.f84.results.toList 1 (z4h r) (z4i r)

def z3f (r : (z00 × (List z06))) : List XV := [xL (List.map z22 r.2)]

def z3g (r : (z00 × (List z06))) : z0r := [oB 67 (bs (z03 r.1))]

def z4q (r : (z00 × z2n)) : List XV := [.agg (bs (zn9 r.2))]

def z4r (r : (z00 × z2n)) : z0r := [oB 67 (bs (z03 r.1))]

mutual
noncomputable def z1c : Nat → z00 → Option (z00 × (List z06))
  | 0, _ => none
  | n + 1, a0 => iter (z8n (z1c n) (z0z n) (z17 n) (z29 n) (z24 n) (z0t n) (z1k n)) (a0.f_l, a0.f_end, a0.f_e, a0.f_at, a0.f_deep, a0.f_in, []) >>= Sum.elim (fun r => some r) (fun j1 =>
 none)
noncomputable def z0z : Nat → z00 → Option (z00 × z06 × Bool)
  | 0, _ => none
  | n + 1, a0 => z0q a0 (ByteArray.mk #[105, 102]) >>= fun v1 =>
 if v1.2 then ((z17 n) v1.1 >>= fun v2 =>
 some (v2.1, v2.2, true))
 else (z0q v1.1 (ByteArray.mk #[119, 104, 105, 108, 101]) >>= fun v3 =>
 if v3.2 then ((z29 n) v3.1 >>= fun v4 =>
 some (v4.1, v4.2, true))
 else (z0q v3.1 (ByteArray.mk #[115, 101, 110, 100]) >>= fun v5 =>
 if v5.2 then (z7y v5.1 >>= fun v6 =>
 some (v6.1, v6.2, true))
 else (z0q v5.1 (ByteArray.mk #[114, 101, 99, 118]) >>= fun v7 =>
 if v7.2 then ((z24 n) v7.1 >>= fun v8 =>
 some (v8.1, v8.2, true))
 else (z0q v7.1 (ByteArray.mk #[97, 115, 115, 101, 114, 116]) >>= fun v9 =>
 if v9.2 then (z72 v9.1 >>= fun v10 =>
 some (v10.1, v10.2, true))
 else (z0q v9.1 (ByteArray.mk #[105, 110, 112, 117, 116]) >>= fun v11 =>
 if v11.2 then (z7i v11.1 >>= fun v12 =>
 some (v12.1, v12.2, true))
 else (z6o v11.1 1 >>= fun v13 =>
 if v13 then (z73 v11.1 >>= fun v14 =>
 some (v14.1, v14.2, true))
 else (some (v11.1, (z06.mk 0 (ByteArray.mk #[]) (ByteArray.mk #[]) (z05.mk 0 0 (ByteArray.mk #[]) []) (z5j.mk 0 (z05.mk 0 0 (ByteArray.mk #[]) []) (z05.mk 0 0 (ByteArray.mk #[]) [])) [] [] []), false))))))))
noncomputable def z17 : Nat → z00 → Option (z00 × z06)
  | 0, _ => none
  | n + 1, a0 => z5z a0 >>= fun v1 =>
 (z0t n) v1.1 >>= fun v2 =>
 z0q v2.1 (ByteArray.mk #[101, 108, 115, 101]) >>= fun v3 =>
 if v3.2 then ((z0t n) v3.1 >>= fun v4 =>
 some (v4.1, (z06.mk 2 (ByteArray.mk #[]) (ByteArray.mk #[]) (z05.mk 0 0 (ByteArray.mk #[]) []) v1.2 v2.2 v4.2 [])))
 else (some (v3.1, (z06.mk 2 (ByteArray.mk #[]) (ByteArray.mk #[]) (z05.mk 0 0 (ByteArray.mk #[]) []) v1.2 v2.2 [] [])))
noncomputable def z29 : Nat → z00 → Option (z00 × z06)
  | 0, _ => none
  | n + 1, a0 => z5z a0 >>= fun v1 =>
 (z0t n) v1.1 >>= fun v2 =>
 some (v2.1, (z06.mk 3 (ByteArray.mk #[]) (ByteArray.mk #[]) (z05.mk 0 0 (ByteArray.mk #[]) []) v1.2 v2.2 [] []))
noncomputable def z24 : Nat → z00 → Option (z00 × z06)
  | 0, _ => none
  | n + 1, a0 => z0o a0 >>= fun v1 =>
 z08 v1.1 (ByteArray.mk #[123]) >>= fun v2 =>
 (z1k n) v2 >>= fun v3 =>
 app 56 [] [v3.2] >>= fun v4 =>
 iter (z6w (z1c n) (z0z n) (z17 n) (z29 n) (z24 n) (z0t n) (z1k n)) (v3.1.f_l, v3.1.f_end, v3.1.f_e, v3.1.f_at, v3.1.f_deep, v3.1.f_in, v4) >>= Sum.elim (fun _ => none) (fun j1 =>
 z08 (z00.mk j1.1 j1.2.1 j1.2.2.1 j1.2.2.2.1 j1.2.2.2.2.1 j1.2.2.2.2.2.1) (ByteArray.mk #[125]) >>= fun v8 =>
 some (v8, (z06.mk 5 v1.2 (ByteArray.mk #[]) (z05.mk 0 0 (ByteArray.mk #[]) []) (z5j.mk 0 (z05.mk 0 0 (ByteArray.mk #[]) []) (z05.mk 0 0 (ByteArray.mk #[]) [])) [] [] j1.2.2.2.2.2.2)))
noncomputable def z0t : Nat → z00 → Option (z00 × (List z06))
  | 0, _ => none
  | n + 1, a0 => ((z3n a0 (ByteArray.mk #[123]) >>= fun v1 =>
 if v1 then (some (a0.f_in == 24))
 else (some false) : Option Bool) >>= fun j1 =>
 if j1 then (z2t a0 6 >>= fun v2 =>
 some (v2, []))
 else (z08 a0 (ByteArray.mk #[123]) >>= fun v3 =>
 (z1c n) (z00.mk v3.f_l v3.f_end v3.f_e v3.f_at v3.f_deep (IntKind.i64.wrap (v3.f_in + 1))) >>= fun v4 =>
 z08 (z00.mk v4.1.f_l v4.1.f_end v4.1.f_e v4.1.f_at v4.1.f_deep (IntKind.i64.wrap (v4.1.f_in - 1))) (ByteArray.mk #[125]) >>= fun v5 =>
 some (v5, v4.2)))
noncomputable def z1k : Nat → z00 → Option (z00 × z2n)
  | 0, _ => none
  | n + 1, a0 => z0o a0 >>= fun v1 =>
 z08 v1.1 (ByteArray.mk #[40]) >>= fun v2 =>
 z0o v2 >>= fun v3 =>
 z08 v3.1 (ByteArray.mk #[41]) >>= fun v4 =>
 (z0t n) v4 >>= fun v5 =>
 some (v5.1, (z2n.mk v1.2 v3.2 v5.2))
end

noncomputable def z7j (a0 : z00) : Option (z00 × (List z06)) := unf fun n => z1c n a0

noncomputable def z42 (x1 : ((List z0n) × Int × Int × Int × Int × Int × (List ByteArray))) : Option (Sum ((List z0n) × Int × Int × Int × Int × Int × (List ByteArray)) (Sum (z00 × z59) ((List z0n) × Int × Int × Int × Int × Int × (List ByteArray)))) :=
 z0q (z00.mk x1.1 x1.2.1 x1.2.2.1 x1.2.2.2.1 x1.2.2.2.2.1 x1.2.2.2.2.2.1) (ByteArray.mk #[118, 97, 114]) >>= fun v3 =>
 if v3.2 then (z0o v3.1 >>= fun v4 =>
 app 16 x1.2.2.2.2.2.2 [v4.2] >>= fun v5 =>
 z08 v4.1 (ByteArray.mk #[59]) >>= fun v6 =>
 some (.inl (v6.f_l, v6.f_end, v6.f_e, v6.f_at, v6.f_deep, v6.f_in, v5)))
 else (some (.inr (.inr (v3.1.f_l, v3.1.f_end, v3.1.f_e, v3.1.f_at, v3.1.f_deep, v3.1.f_in, x1.2.2.2.2.2.2))))

noncomputable def z7z (a0 : z00) : Option (z00 × z59) :=
 z0o a0 >>= fun v1 =>
 z08 v1.1 (ByteArray.mk #[123]) >>= fun v2 =>
 iter (z42) (v2.f_l, v2.f_end, v2.f_e, v2.f_at, v2.f_deep, v2.f_in, []) >>= Sum.elim (fun _ => none) (fun j1 =>
 z7j (z00.mk j1.1 j1.2.1 j1.2.2.1 j1.2.2.2.1 j1.2.2.2.2.1 j1.2.2.2.2.2.1) >>= fun v7 =>
 z08 v7.1 (ByteArray.mk #[125]) >>= fun v8 =>
 some (v8, (z59.mk v1.2 j1.2.2.2.2.2.2 v7.2)))

def zbh (r : (z00 × z59)) : List XV := [.agg (bs (z0g r.2))]

def zbi (r : (z00 × z59)) : z0r := [oB 67 (bs (z03 r.1))]

noncomputable def zja (r : (z00 × z59)) : Tg := .r false Tryz.f19.results.toList 1 (zbh r) (zbi r)

noncomputable def z7b (x1 : ((List z0n) × Int × Int × Int × Int × Int × (List z4o))) : Option (Sum ((List z0n) × Int × Int × Int × Int × Int × (List z4o)) (Sum (z2l × Int × Int) ((List z0n) × Int × Int × Int × Int × Int × (List z4o)))) :=
 z0q (z00.mk x1.1 x1.2.1 x1.2.2.1 x1.2.2.2.1 x1.2.2.2.2.1 x1.2.2.2.2.2.1) (ByteArray.mk #[99, 104, 97, 110]) >>= fun v2 =>
 if v2.2 then (z6v v2.1 >>= fun v3 =>
 app 88 x1.2.2.2.2.2.2 [v3.2] >>= fun v4 =>
 some (.inl (v3.1.f_l, v3.1.f_end, v3.1.f_e, v3.1.f_at, v3.1.f_deep, v3.1.f_in, v4)))
 else (some (.inr (.inr (v2.1.f_l, v2.1.f_end, v2.1.f_e, v2.1.f_at, v2.1.f_deep, v2.1.f_in, x1.2.2.2.2.2.2))))

noncomputable def z7c (x2 : ((List z0n) × Int × Int × Int × Int × Int × (List z5i))) : Option (Sum ((List z0n) × Int × Int × Int × Int × Int × (List z5i)) (Sum (z2l × Int × Int) ((List z0n) × Int × Int × Int × Int × Int × (List z5i)))) :=
 z0q (z00.mk x2.1 x2.2.1 x2.2.2.1 x2.2.2.2.1 x2.2.2.2.2.1 x2.2.2.2.2.2.1) (ByteArray.mk #[114, 117, 108, 101]) >>= fun v5 =>
 if v5.2 then (z7x v5.1 >>= fun v6 =>
 app 40 x2.2.2.2.2.2.2 [v6.2] >>= fun v7 =>
 some (.inl (v6.1.f_l, v6.1.f_end, v6.1.f_e, v6.1.f_at, v6.1.f_deep, v6.1.f_in, v7)))
 else (some (.inr (.inr (v5.1.f_l, v5.1.f_end, v5.1.f_e, v5.1.f_at, v5.1.f_deep, v5.1.f_in, x2.2.2.2.2.2.2))))

noncomputable def z6l (x3 : ((List z0n) × Int × Int × Int × Int × Int × (List z59))) : Option (Sum ((List z0n) × Int × Int × Int × Int × Int × (List z59)) (Sum (z2l × Int × Int) ((List z0n) × Int × Int × Int × Int × Int × (List z59)))) :=
 z0q (z00.mk x3.1 x3.2.1 x3.2.2.1 x3.2.2.2.1 x3.2.2.2.2.1 x3.2.2.2.2.2.1) (ByteArray.mk #[112, 114, 111, 99]) >>= fun v8 =>
 if v8.2 then (z7z v8.1 >>= fun v9 =>
 app 64 x3.2.2.2.2.2.2 [v9.2] >>= fun v10 =>
 some (.inl (v9.1.f_l, v9.1.f_end, v9.1.f_e, v9.1.f_at, v9.1.f_deep, v9.1.f_in, v10)))
 else (some (.inr (.inr (v8.1.f_l, v8.1.f_end, v8.1.f_e, v8.1.f_at, v8.1.f_deep, v8.1.f_in, x3.2.2.2.2.2.2))))

noncomputable def za2 (a0 : ByteArray) : Option (z2l × Int × Int) :=
 zhe a0 >>= fun v1 =>
 if (v1.2.2 != 0) then (some ((z2l.mk [] [] []), v1.2.1, v1.2.2))
 else (iter (z7b) (v1.1, (a0.size : Int), 0, 0, 0, 0, []) >>= Sum.elim (fun _ => none) (fun j1 =>
 iter (z7c) (j1.1, j1.2.1, j1.2.2.1, j1.2.2.2.1, j1.2.2.2.2.1, j1.2.2.2.2.2.1, []) >>= Sum.elim (fun _ => none) (fun j2 =>
 iter (z6l) (j2.1, j2.2.1, j2.2.2.1, j2.2.2.2.1, j2.2.2.2.2.1, j2.2.2.2.2.2.1, []) >>= Sum.elim (fun _ => none) (fun j3 =>
 if (decide ((j3.1.length : Int) > 0)) then (z2t (z00.mk j3.1 j3.2.1 j3.2.2.1 j3.2.2.2.1 j3.2.2.2.2.1 j3.2.2.2.2.2.1) 5 >>= fun v11 =>
 if (v11.f_e != 0) then (some ((z2l.mk [] [] []), v11.f_at, v11.f_e))
 else (some ((z2l.mk j1.2.2.2.2.2.2 j2.2.2.2.2.2.2 j3.2.2.2.2.2.2), 0, 0)))
 else (if (j3.2.2.1 != 0) then (some ((z2l.mk [] [] []), j3.2.2.2.1, j3.2.2.1))
 else (some ((z2l.mk j1.2.2.2.2.2.2 j2.2.2.2.2.2.2 j3.2.2.2.2.2.2), 0, 0)))))))

def ze8 (r : (z2l × Int × Int)) : List XV := [.agg (bs (z6d r.1)), xI r.2.1, xI r.2.2]

def zka (r : (z2l × Int × Int)) : z0r := []

noncomputable def zgk (r : (z2l × Int × Int)) : Tg := .r false Tryz.f8.results.toList 0 (ze8 r) (zka r)

noncomputable def z0d (a0 : z01) (a1 : (List ByteArray)) : Option z01 :=
 app 16 a0.f_out a1 >>= fun v1 =>
 some (z01.mk v1 a0.f_form a0.f_deep a0.f_blocks a0.f_parens)

def z0j (r : z01) : List XV := []

def z0k (r : z01) : z0r := [oB 164 [.row 1, .pv (.bool r.f_form), .pv (.bool r.f_deep), .pv (.int .i64 r.f_blocks), .pv (.int .i64 r.f_parens)], oR true 9 1 (List.map z0a r.f_out)]

noncomputable def z38 (a0 : z01) (a1 : Bool) : Option z01 :=
 if a0.f_form then (some (z01.mk a0.f_out true a0.f_deep a0.f_blocks a0.f_parens))
 else (some (z01.mk a0.f_out (!a1) a0.f_deep a0.f_blocks a0.f_parens))

def z3o (r : z01) : List XV := []

def z3p (r : z01) : z0r := [oB 164 [.row 1, .pv (.bool r.f_form), .pv (.bool r.f_deep), .pv (.int .i64 r.f_blocks), .pv (.int .i64 r.f_parens)], oR false 9 1 (List.map z0a r.f_out)]

noncomputable def z1i (a0 : z01) (a1 : ByteArray) : Option z01 :=
 zhe a1 >>= fun v1 =>
 ((if (v1.2.2 == 0) then (if ((v1.1.length : Int) == 1) then (idx v1.1 0 >>= fun v2 =>
 if (v2.Kind == 1) then (idx v1.1 0 >>= fun v3 =>
 z38 a0 (v3.Text.toList == a1.toList) >>= fun v4 =>
 some (v4.f_form, v4.f_deep, v4.f_blocks, v4.f_parens, v4.f_out))
 else (z38 a0 false >>= fun v5 =>
 some (v5.f_form, v5.f_deep, v5.f_blocks, v5.f_parens, v5.f_out)))
 else (z38 a0 false >>= fun v6 =>
 some (v6.f_form, v6.f_deep, v6.f_blocks, v6.f_parens, v6.f_out)))
 else (z38 a0 false >>= fun v7 =>
 some (v7.f_form, v7.f_deep, v7.f_blocks, v7.f_parens, v7.f_out)) : Option (Bool × Bool × Int × Int × (List ByteArray))) >>= fun j1 =>
 z0d (z01.mk j1.2.2.2.2 j1.1 j1.2.1 j1.2.2.1 j1.2.2.2.1) [a1] >>= fun v8 =>
 some v8)

def z1x (r : z01) : List XV := []

def z1y (r : z01) : z0r := [oB 164 [.row 1, .pv (.bool r.f_form), .pv (.bool r.f_deep), .pv (.int .i64 r.f_blocks), .pv (.int .i64 r.f_parens)], oR true 9 1 (List.map z0a r.f_out)]

def z01l (r : ByteArray) : List XV := [xS r]

noncomputable def z4z (a0 : z01) (a1 : Int) : Option z01 :=
 ((if (decide (a1 ≥ 0)) then (z38 a0 (decide (a1 ≤ 2147483647)) >>= fun v1 =>
 some (v1.f_form, v1.f_deep, v1.f_blocks, v1.f_parens, v1.f_out))
 else (z38 a0 false >>= fun v2 =>
 some (v2.f_form, v2.f_deep, v2.f_blocks, v2.f_parens, v2.f_out)) : Option (Bool × Bool × Int × Int × (List ByteArray))) >>= fun j1 =>
 itoa a1 >>= fun v3 =>
 z0d (z01.mk j1.2.2.2.2 j1.1 j1.2.1 j1.2.2.1 j1.2.2.2.1) [v3] >>= fun v4 =>
 some v4)

def z74 (r : z01) : List XV := []

def z76 (r : z01) : z0r := [oB 164 [.row 1, .pv (.bool r.f_form), .pv (.bool r.f_deep), .pv (.int .i64 r.f_blocks), .pv (.int .i64 r.f_parens)], oR true 9 1 (List.map z0a r.f_out)]

noncomputable def z5p (a1 : z4o) (x2 : (Int × Bool × Bool × Int × Int × (List ByteArray))) : Option (Sum (Int × Bool × Bool × Int × Int × (List ByteArray)) (Sum z01 (Bool × Bool × Int × Int × (List ByteArray)))) :=
 if (decide (x2.1 < (a1.Tags.length : Int))) then (((idx a1.Tags x2.1 >>= fun v11 =>
 if (decide (x2.1 > 0)) then (z0d (z01.mk x2.2.2.2.2.2 x2.2.1 x2.2.2.1 x2.2.2.2.1 x2.2.2.2.2.1) [(ByteArray.mk #[44])] >>= fun v12 =>
 z1i v12 v11 >>= fun v13 =>
 some (v13.f_form, v13.f_deep, v13.f_blocks, v13.f_parens, v13.f_out))
 else (z1i (z01.mk x2.2.2.2.2.2 x2.2.1 x2.2.2.1 x2.2.2.2.1 x2.2.2.2.2.1) v11 >>= fun v14 =>
 some (v14.f_form, v14.f_deep, v14.f_blocks, v14.f_parens, v14.f_out)) : Option (Bool × Bool × Int × Int × (List ByteArray))) >>= fun j3 =>
 some (.inl ((IntKind.i64.wrap (x2.1 + 1)), j3.1, j3.2.1, j3.2.2.1, j3.2.2.2.1, j3.2.2.2.2))))
 else (some (.inr (.inr (x2.2.1, x2.2.2.1, x2.2.2.2.1, x2.2.2.2.2.1, x2.2.2.2.2.2))))

noncomputable def z5q (a1 : z4o) (x4 : (Int × Bool × Bool × Int × Int × (List ByteArray))) : Option (Sum (Int × Bool × Bool × Int × Int × (List ByteArray)) (Sum z01 (Bool × Bool × Int × Int × (List ByteArray)))) :=
 if (decide (x4.1 < (a1.Tags.length : Int))) then (((idx a1.Tags x4.1 >>= fun v25 =>
 if (decide (x4.1 > 0)) then (z0d (z01.mk x4.2.2.2.2.2 x4.2.1 x4.2.2.1 x4.2.2.2.1 x4.2.2.2.2.1) [(ByteArray.mk #[44])] >>= fun v26 =>
 z1i v26 v25 >>= fun v27 =>
 some (v27.f_form, v27.f_deep, v27.f_blocks, v27.f_parens, v27.f_out))
 else (z1i (z01.mk x4.2.2.2.2.2 x4.2.1 x4.2.2.1 x4.2.2.2.1 x4.2.2.2.2.1) v25 >>= fun v28 =>
 some (v28.f_form, v28.f_deep, v28.f_blocks, v28.f_parens, v28.f_out)) : Option (Bool × Bool × Int × Int × (List ByteArray))) >>= fun j5 =>
 some (.inl ((IntKind.i64.wrap (x4.1 + 1)), j5.1, j5.2.1, j5.2.2.1, j5.2.2.2.1, j5.2.2.2.2))))
 else (some (.inr (.inr (x4.2.1, x4.2.2.1, x4.2.2.2.1, x4.2.2.2.2.1, x4.2.2.2.2.2))))

noncomputable def z7k (a0 : z01) (a1 : z4o) : Option z01 :=
 z0d a0 [(ByteArray.mk #[99, 104, 97, 110])] >>= fun v1 =>
 z1i v1 a1.Name >>= fun v2 =>
 ((if (decide (a1.Kind < 0)) then (some true)
 else (some (decide (a1.Kind ≥ 3))) : Option Bool) >>= fun j1 =>
 if j1 then (z38 v2 false >>= fun v3 =>
 z4z v3 a1.Size >>= fun v4 =>
 z0d v4 [(ByteArray.mk #[102, 114, 111, 109])] >>= fun v5 =>
 z1i v5 a1.From >>= fun v6 =>
 z0d v6 [(ByteArray.mk #[116, 111])] >>= fun v7 =>
 z1i v7 a1.To >>= fun v8 =>
 z0d v8 [(ByteArray.mk #[123])] >>= fun v9 =>
 z38 v9 (decide ((a1.Tags.length : Int) > 0)) >>= fun v10 =>
 iter (z5p a1) (0, v10.f_form, v10.f_deep, v10.f_blocks, v10.f_parens, v10.f_out) >>= Sum.elim (fun _ => none) (fun j2 =>
 z0d (z01.mk j2.2.2.2.2 j2.1 j2.2.1 j2.2.2.1 j2.2.2.2.1) [(ByteArray.mk #[125]), (ByteArray.mk #[59])] >>= fun v15 =>
 some v15))
 else (idx [(ByteArray.mk #[98, 108, 111, 99, 107]), (ByteArray.mk #[100, 114, 111, 112]), (ByteArray.mk #[108, 111, 115, 115, 121])] a1.Kind >>= fun v16 =>
 z0d v2 [v16] >>= fun v17 =>
 z4z v17 a1.Size >>= fun v18 =>
 z0d v18 [(ByteArray.mk #[102, 114, 111, 109])] >>= fun v19 =>
 z1i v19 a1.From >>= fun v20 =>
 z0d v20 [(ByteArray.mk #[116, 111])] >>= fun v21 =>
 z1i v21 a1.To >>= fun v22 =>
 z0d v22 [(ByteArray.mk #[123])] >>= fun v23 =>
 z38 v23 (decide ((a1.Tags.length : Int) > 0)) >>= fun v24 =>
 iter (z5q a1) (0, v24.f_form, v24.f_deep, v24.f_blocks, v24.f_parens, v24.f_out) >>= Sum.elim (fun _ => none) (fun j4 =>
 z0d (z01.mk j4.2.2.2.2 j4.1 j4.2.1 j4.2.2.1 j4.2.2.2.1) [(ByteArray.mk #[125]), (ByteArray.mk #[59])] >>= fun v29 =>
 some v29)))

def zav (r : z01) : List XV := []

def zaw (r : z01) : z0r := [oB 164 [.row 1, .pv (.bool r.f_form), .pv (.bool r.f_deep), .pv (.int .i64 r.f_blocks), .pv (.int .i64 r.f_parens)], oR true 9 1 (List.map z0a r.f_out)]

noncomputable def zdz (r : z01) : Tg := .r false Tryz.f67.results.toList 2 (zav r) (zaw r)

noncomputable def z6p (a1 : z5i) (x1 : (Int × Bool × Bool × Int × Int × (List ByteArray))) : Option (Sum (Int × Bool × Bool × Int × Int × (List ByteArray)) (Sum z01 (Bool × Bool × Int × Int × (List ByteArray)))) :=
 if (decide (x1.1 < (a1.Moves.length : Int))) then (idx a1.Moves x1.1 >>= fun v4 =>
 z4z (z01.mk x1.2.2.2.2.2 x1.2.1 x1.2.2.1 x1.2.2.2.1 x1.2.2.2.2.1) v4.From >>= fun v5 =>
 z1i v5 v4.Tag >>= fun v6 =>
 z4z v6 v4.To >>= fun v7 =>
 z0d v7 [(ByteArray.mk #[59])] >>= fun v8 =>
 some (.inl ((IntKind.i64.wrap (x1.1 + 1)), v8.f_form, v8.f_deep, v8.f_blocks, v8.f_parens, v8.f_out)))
 else (some (.inr (.inr (x1.2.1, x1.2.2.1, x1.2.2.2.1, x1.2.2.2.2.1, x1.2.2.2.2.2))))

noncomputable def z91 (a0 : z01) (a1 : z5i) : Option z01 :=
 z0d a0 [(ByteArray.mk #[114, 117, 108, 101])] >>= fun v1 =>
 z1i v1 a1.Chan >>= fun v2 =>
 z0d v2 [(ByteArray.mk #[123])] >>= fun v3 =>
 iter (z6p a1) (0, v3.f_form, v3.f_deep, v3.f_blocks, v3.f_parens, v3.f_out) >>= Sum.elim (fun _ => none) (fun j1 =>
 z0d (z01.mk j1.2.2.2.2 j1.1 j1.2.1 j1.2.2.1 j1.2.2.2.1) [(ByteArray.mk #[125])] >>= fun v9 =>
 some v9)

def zcs (r : z01) : List XV := []

def zct (r : z01) : z0r := [oB 164 [.row 1, .pv (.bool r.f_form), .pv (.bool r.f_deep), .pv (.int .i64 r.f_blocks), .pv (.int .i64 r.f_parens)], oR true 9 1 (List.map z0a r.f_out)]

noncomputable def zlj (r : z01) : Tg := .r false Tryz.f68.results.toList 2 (zcs r) (zct r)

noncomputable def zgl (a0 : Int) : Option Bool :=
 if (decide (a0 ≥ 4)) then (some (decide (a0 ≤ 8)))
 else (some false)

def zeg (r : Bool) : List XV := [xB r]

def zvi (r : Bool) : z0r := []

noncomputable def zhg (a0 : Int) : Option Bool :=
 if (a0 == 4) then (some true)
 else (some (a0 == 5))

def zb1 (r : Bool) : List XV := [xB r]

def zxo (r : Bool) : z0r := []

noncomputable def za3 (a0 : z01) (a1 : z05) : Option z01 :=
 z38 a0 ((a1.Kids.length : Int) == 0) >>= fun v1 =>
 if (a1.Kind == 1) then (z4z v1 a1.Num >>= fun v2 =>
 some v2)
 else (z38 v1 (a1.Kind == 2) >>= fun v3 =>
 z1i v3 a1.Name >>= fun v4 =>
 some v4)

def zg6 (r : z01) : List XV := []

def zg7 (r : z01) : z0r := [oB 164 [.row 1, .pv (.bool r.f_form), .pv (.bool r.f_deep), .pv (.int .i64 r.f_blocks), .pv (.int .i64 r.f_parens)], oR true 9 1 (List.map z0a r.f_out)]

def z3h (r : z01) : List XV := []

def z3i (r : z01) : z0r := [oB 164 [.row 1, .pv (.bool r.f_form), .pv (.bool r.f_deep), .pv (.int .i64 r.f_blocks), .pv (.int .i64 r.f_parens)], oR true 9 1 (List.map z0a r.f_out)]

def z1r (r : z01) : List XV := []

def z1s (a1011 : z05) (r : z01) : z0r := [oB 164 [.row 1, .pv (.bool r.f_form), .pv (.bool r.f_deep), .pv (.int .i64 r.f_blocks), .pv (.int .i64 r.f_parens)], oR true 9 1 (List.map z0a r.f_out), oB 162 [.box 0 0], oB 154 (bs (z0p a1011))]

def z49 (r : z01) : List XV := []

def z4a (r : z01) : z0r := [oB 164 [.row 1, .pv (.bool r.f_form), .pv (.bool r.f_deep), .pv (.int .i64 r.f_blocks), .pv (.int .i64 r.f_parens)], oR true 9 1 (List.map z0a r.f_out)]

def z5a (r : z01) : List XV := []

def z5b (a1 : z05) (r : z01) : z0r := [oB 162 [.box 1 0], oB 164 [.row 2, .pv (.bool r.f_form), .pv (.bool r.f_deep), .pv (.int .i64 r.f_blocks), .pv (.int .i64 r.f_parens)], oR true 9 1 (List.map z0a r.f_out), oB 154 (bs (z0p a1))]

def z1u (r : z01) : List XV := []

def z1v (a1011 : z05) (r : z01) : z0r := [oB 164 [.row 1, .pv (.bool r.f_form), .pv (.bool r.f_deep), .pv (.int .i64 r.f_blocks), .pv (.int .i64 r.f_parens)], oR true 9 1 (List.map z0a r.f_out), oB 162 [.box 0 0], oB 154 (bs (z0p a1011))]

def z5f (r : z01) : List XV := []

def z5g (a1 : z05) (r : z01) : z0r := [oB 162 [.box 1 0], oB 164 [.row 2, .pv (.bool r.f_form), .pv (.bool r.f_deep), .pv (.int .i64 r.f_blocks), .pv (.int .i64 r.f_parens)], oR true 9 1 (List.map z0a r.f_out), oB 154 (bs (z0p a1))]

mutual
noncomputable def z2a : Nat → z01 → z05 → Option z01
  | 0, _, _ => none
  | n + 1, a0, a1 => ((if (a1.Kind == 3) then (some ((a1.Kids.length : Int) == 1))
 else (some false) : Option Bool) >>= fun j1 =>
 if j1 then (z0d a0 [(ByteArray.mk #[45])] >>= fun v1 =>
 (z12 n) v1 a1 >>= fun v2 =>
 some v2)
 else (((zgl a1.Kind >>= fun v3 =>
 if v3 then (some ((a1.Kids.length : Int) == 2))
 else (some false) : Option Bool) >>= fun j2 =>
 if j2 then (idx a1.Kids 0 >>= fun v4 =>
 idx a1.Kids 1 >>= fun v5 =>
 ((zhg a1.Kind >>= fun v6 =>
 if (!v6) then (zhg v4.Kind >>= fun v7 =>
 (z2d n) a0 v4 v7 >>= fun v8 =>
 some (v8.f_form, v8.f_deep, v8.f_blocks, v8.f_parens, v8.f_out))
 else ((z2d n) a0 v4 false >>= fun v9 =>
 some (v9.f_form, v9.f_deep, v9.f_blocks, v9.f_parens, v9.f_out)) : Option (Bool × Bool × Int × Int × (List ByteArray))) >>= fun j3 =>
 idx [(ByteArray.mk #[43]), (ByteArray.mk #[45]), (ByteArray.mk #[42]), (ByteArray.mk #[47]), (ByteArray.mk #[37])] (IntKind.i64.wrap (a1.Kind - 4)) >>= fun v10 =>
 z0d (z01.mk j3.2.2.2.2 j3.1 j3.2.1 j3.2.2.1 j3.2.2.2.1) [v10] >>= fun v11 =>
 zhg v5.Kind >>= fun v12 =>
 if v12 then ((z2d n) v11 v5 true >>= fun v13 =>
 some v13)
 else (zhg a1.Kind >>= fun v14 =>
 if (!v14) then (zgl v5.Kind >>= fun v15 =>
 (z2d n) v11 v5 v15 >>= fun v16 =>
 some v16)
 else ((z2d n) v11 v5 false >>= fun v17 =>
 some v17))))
 else (za3 a0 a1 >>= fun v18 =>
 some v18))))
noncomputable def z12 : Nat → z01 → z05 → Option z01
  | 0, _, _ => none
  | n + 1, a0, a1011 => ((if a0.f_deep then (some true)
 else (some (decide ((IntKind.i64.wrap (a0.f_parens + 1)) > 24))) : Option Bool) >>= fun j1 =>
 (z3m n) (z01.mk a0.f_out a0.f_form j1 a0.f_blocks (IntKind.i64.wrap (a0.f_parens + 1))) a1011 >>= fun v1 =>
 some (z01.mk v1.f_out v1.f_form v1.f_deep v1.f_blocks (IntKind.i64.wrap (v1.f_parens - 1))))
noncomputable def z2d : Nat → z01 → z05 → Bool → Option z01
  | 0, _, _, _ => none
  | n + 1, a0, a1, a2 => if (!a2) then ((z2a n) a0 a1 >>= fun v1 =>
 some v1)
 else (z0d a0 [(ByteArray.mk #[40])] >>= fun v2 =>
 (z13 n) v2 a1 >>= fun v3 =>
 z0d v3 [(ByteArray.mk #[41])] >>= fun v4 =>
 some v4)
noncomputable def z3m : Nat → z01 → z05 → Option z01
  | 0, _, _ => none
  | n + 1, a0, a1 => idx a1.Kids 0 >>= fun v1 =>
 zgl v1.Kind >>= fun v2 =>
 (z2d n) a0 v1 v2 >>= fun v3 =>
 some v3
noncomputable def z13 : Nat → z01 → z05 → Option z01
  | 0, _, _ => none
  | n + 1, a0, a1011 => ((if a0.f_deep then (some true)
 else (some (decide ((IntKind.i64.wrap (a0.f_parens + 1)) > 24))) : Option Bool) >>= fun j1 =>
 (z3t n) (z01.mk a0.f_out a0.f_form j1 a0.f_blocks (IntKind.i64.wrap (a0.f_parens + 1))) a1011 >>= fun v1 =>
 some (z01.mk v1.f_out v1.f_form v1.f_deep v1.f_blocks (IntKind.i64.wrap (v1.f_parens - 1))))
noncomputable def z3t : Nat → z01 → z05 → Option z01
  | 0, _, _ => none
  | n + 1, a0, a1 => (z2a n) a0 a1 >>= fun v1 =>
 some v1
end

noncomputable def z84 (a0 : z01) (a1 : z05) : Option z01 := unf fun n => z2a n a0 a1

noncomputable def z86 (a0 : z01) (a1 : z5j) : Option z01 :=
 z0d a0 [(ByteArray.mk #[40])] >>= fun v1 =>
 z84 v1 a1.L >>= fun v2 =>
 ((if (decide (a1.Op < 1)) then (some true)
 else (some (decide (a1.Op > 6))) : Option Bool) >>= fun j1 =>
 if j1 then (z38 v2 false >>= fun v3 =>
 z84 v3 a1.R >>= fun v4 =>
 z0d v4 [(ByteArray.mk #[41])] >>= fun v5 =>
 some v5)
 else (idx [(ByteArray.mk #[61, 61]), (ByteArray.mk #[33, 61]), (ByteArray.mk #[60]), (ByteArray.mk #[60, 61]), (ByteArray.mk #[62]), (ByteArray.mk #[62, 61])] (IntKind.i64.wrap (a1.Op - 1)) >>= fun v6 =>
 z0d v2 [v6] >>= fun v7 =>
 z84 v7 a1.R >>= fun v8 =>
 z0d v8 [(ByteArray.mk #[41])] >>= fun v9 =>
 some v9))

def zan (r : z01) : List XV := []

def zao (r : z01) : z0r := [oB 164 [.row 1, .pv (.bool r.f_form), .pv (.bool r.f_deep), .pv (.int .i64 r.f_blocks), .pv (.int .i64 r.f_parens)], oR true 9 1 (List.map z0a r.f_out)]

noncomputable def z67 (F_ast_writer_stmts : z01 → (List z06) → Option z01) (F_ast_writer_stmt : z01 → z06 → Option z01) (F_ast_writer_block : z01 → (List z06) → Option z01) (F_ast_writer_arms : z01 → (List z2n) → Option z01) (a1 : (List z06)) (x1 : (Int × Bool × Bool × Int × Int × (List ByteArray))) : Option (Sum (Int × Bool × Bool × Int × Int × (List ByteArray)) (Sum z01 (Bool × Bool × Int × Int × (List ByteArray)))) :=
 if (decide (x1.1 < (a1.length : Int))) then (idx a1 x1.1 >>= fun v1 =>
 F_ast_writer_stmt (z01.mk x1.2.2.2.2.2 x1.2.1 x1.2.2.1 x1.2.2.2.1 x1.2.2.2.2.1) v1 >>= fun v2 =>
 some (.inl ((IntKind.i64.wrap (x1.1 + 1)), v2.f_form, v2.f_deep, v2.f_blocks, v2.f_parens, v2.f_out)))
 else (some (.inr (.inr (x1.2.1, x1.2.2.1, x1.2.2.2.1, x1.2.2.2.2.1, x1.2.2.2.2.2))))

def z50 (r : z01) : List XV := []

def z52 (r : z01) : z0r := [oB 164 [.row 1, .pv (.bool r.f_form), .pv (.bool r.f_deep), .pv (.int .i64 r.f_blocks), .pv (.int .i64 r.f_parens)], oR true 9 1 (List.map z0a r.f_out)]

noncomputable def zkb (r : z01) : Tg := .r false Tryz.f92.results.toList 2 (z50 r) (z52 r)

def z77 (r : z01) : List XV := []

def z78 (r : z01) : z0r := [oB 164 [.row 1, .pv (.bool r.f_form), .pv (.bool r.f_deep), .pv (.int .i64 r.f_blocks), .pv (.int .i64 r.f_parens)], oR true 9 1 (List.map z0a r.f_out)]

def z54 (r : z01) : List XV := []

def z55 (r : z01) : z0r := [oB 164 [.row 1, .pv (.bool r.f_form), .pv (.bool r.f_deep), .pv (.int .i64 r.f_blocks), .pv (.int .i64 r.f_parens)], oR true 9 1 (List.map z0a r.f_out)]

noncomputable def z6q (F_ast_writer_stmts : z01 → (List z06) → Option z01) (F_ast_writer_stmt : z01 → z06 → Option z01) (F_ast_writer_block : z01 → (List z06) → Option z01) (F_ast_writer_arms : z01 → (List z2n) → Option z01) (a1 : (List z2n)) (x1 : (Int × Bool × Bool × Int × Int × (List ByteArray))) : Option (Sum (Int × Bool × Bool × Int × Int × (List ByteArray)) (Sum z01 (Bool × Bool × Int × Int × (List ByteArray)))) :=
 if (decide (x1.1 < (a1.length : Int))) then (idx a1 x1.1 >>= fun v3 =>
 z1i (z01.mk x1.2.2.2.2.2 x1.2.1 x1.2.2.1 x1.2.2.2.1 x1.2.2.2.2.1) v3.Tag >>= fun v4 =>
 z0d v4 [(ByteArray.mk #[40])] >>= fun v5 =>
 z1i v5 v3.Var >>= fun v6 =>
 z0d v6 [(ByteArray.mk #[41])] >>= fun v7 =>
 F_ast_writer_block v7 v3.Body >>= fun v8 =>
 some (.inl ((IntKind.i64.wrap (x1.1 + 1)), v8.f_form, v8.f_deep, v8.f_blocks, v8.f_parens, v8.f_out)))
 else (some (.inr (.inr (x1.2.1, x1.2.2.1, x1.2.2.2.1, x1.2.2.2.2.1, x1.2.2.2.2.2))))

def z6g (r : z01) : List XV := []

def z6h (r : z01) : z0r := [oB 164 [.row 1, .pv (.bool r.f_form), .pv (.bool r.f_deep), .pv (.int .i64 r.f_blocks), .pv (.int .i64 r.f_parens)], oR true 9 1 (List.map z0a r.f_out)]

noncomputable def zlk (r : z01) : Tg := .r false Tryz.f133.results.toList 2 (z6g r) (z6h r)

mutual
noncomputable def z2b : Nat → z01 → (List z06) → Option z01
  | 0, _, _ => none
  | n + 1, a0, a1 => iter (z67 (z2b n) (z2m n) (z1z n) (z35 n) a1) (0, a0.f_form, a0.f_deep, a0.f_blocks, a0.f_parens, a0.f_out) >>= Sum.elim (fun _ => none) (fun j1 =>
 some (z01.mk j1.2.2.2.2 j1.1 j1.2.1 j1.2.2.1 j1.2.2.2.1))
noncomputable def z2m : Nat → z01 → z06 → Option z01
  | 0, _, _ => none
  | n + 1, a0, a1 => if (a1.Kind == 1) then (z1i a0 a1.Name >>= fun v1 =>
 z0d v1 [(ByteArray.mk #[61])] >>= fun v2 =>
 z84 v2 a1.E >>= fun v3 =>
 z0d v3 [(ByteArray.mk #[59])] >>= fun v4 =>
 some v4)
 else (if (a1.Kind == 2) then (z0d a0 [(ByteArray.mk #[105, 102])] >>= fun v5 =>
 z86 v5 a1.C >>= fun v6 =>
 (z1z n) v6 a1.Body >>= fun v7 =>
 if (decide ((a1.Else.length : Int) > 0)) then (z0d v7 [(ByteArray.mk #[101, 108, 115, 101])] >>= fun v8 =>
 (z1z n) v8 a1.Else >>= fun v9 =>
 some v9)
 else (some v7))
 else (if (a1.Kind == 3) then (z0d a0 [(ByteArray.mk #[119, 104, 105, 108, 101])] >>= fun v10 =>
 z86 v10 a1.C >>= fun v11 =>
 (z1z n) v11 a1.Body >>= fun v12 =>
 some v12)
 else (if (a1.Kind == 4) then (z0d a0 [(ByteArray.mk #[115, 101, 110, 100])] >>= fun v13 =>
 z1i v13 a1.Name >>= fun v14 =>
 z0d v14 [(ByteArray.mk #[46])] >>= fun v15 =>
 z1i v15 a1.Tag >>= fun v16 =>
 z0d v16 [(ByteArray.mk #[40])] >>= fun v17 =>
 z84 v17 a1.E >>= fun v18 =>
 z0d v18 [(ByteArray.mk #[41]), (ByteArray.mk #[59])] >>= fun v19 =>
 some v19)
 else (if (a1.Kind == 5) then (z0d a0 [(ByteArray.mk #[114, 101, 99, 118])] >>= fun v20 =>
 z1i v20 a1.Name >>= fun v21 =>
 (z35 n) v21 a1.Arms >>= fun v22 =>
 some v22)
 else (if (a1.Kind == 6) then (z0d a0 [(ByteArray.mk #[97, 115, 115, 101, 114, 116])] >>= fun v23 =>
 z86 v23 a1.C >>= fun v24 =>
 z0d v24 [(ByteArray.mk #[59])] >>= fun v25 =>
 some v25)
 else (if (a1.Kind == 7) then (z0d a0 [(ByteArray.mk #[105, 110, 112, 117, 116])] >>= fun v26 =>
 z1i v26 a1.Name >>= fun v27 =>
 z0d v27 [(ByteArray.mk #[59])] >>= fun v28 =>
 some v28)
 else (z38 a0 false >>= fun v29 =>
 some v29)))))))
noncomputable def z1z : Nat → z01 → (List z06) → Option z01
  | 0, _, _ => none
  | n + 1, a0, a1 => z0d a0 [(ByteArray.mk #[123])] >>= fun v1 =>
 ((if v1.f_deep then (some true)
 else (some (decide ((IntKind.i64.wrap (v1.f_blocks + 1)) > 24))) : Option Bool) >>= fun j1 =>
 (z2b n) (z01.mk v1.f_out v1.f_form j1 (IntKind.i64.wrap (v1.f_blocks + 1)) v1.f_parens) a1 >>= fun v2 =>
 z0d (z01.mk v2.f_out v2.f_form v2.f_deep (IntKind.i64.wrap (v2.f_blocks - 1)) v2.f_parens) [(ByteArray.mk #[125])] >>= fun v3 =>
 some v3)
noncomputable def z35 : Nat → z01 → (List z2n) → Option z01
  | 0, _, _ => none
  | n + 1, a0, a1 => z38 a0 (decide ((a1.length : Int) > 0)) >>= fun v1 =>
 z0d v1 [(ByteArray.mk #[123])] >>= fun v2 =>
 iter (z6q (z2b n) (z2m n) (z1z n) (z35 n) a1) (0, v2.f_form, v2.f_deep, v2.f_blocks, v2.f_parens, v2.f_out) >>= Sum.elim (fun _ => none) (fun j1 =>
 z0d (z01.mk j1.2.2.2.2 j1.1 j1.2.1 j1.2.2.1 j1.2.2.2.1) [(ByteArray.mk #[125])] >>= fun v9 =>
 some v9)
end

noncomputable def zb7 (a0 : z01) (a1 : (List z06)) : Option z01 := unf fun n => z2b n a0 a1

noncomputable def z7l (a1 : z59) (x1 : (Int × Bool × Bool × Int × Int × (List ByteArray))) : Option (Sum (Int × Bool × Bool × Int × Int × (List ByteArray)) (Sum z01 (Bool × Bool × Int × Int × (List ByteArray)))) :=
 if (decide (x1.1 < (a1.Vars.length : Int))) then (idx a1.Vars x1.1 >>= fun v4 =>
 z0d (z01.mk x1.2.2.2.2.2 x1.2.1 x1.2.2.1 x1.2.2.2.1 x1.2.2.2.2.1) [(ByteArray.mk #[118, 97, 114])] >>= fun v5 =>
 z1i v5 v4 >>= fun v6 =>
 z0d v6 [(ByteArray.mk #[59])] >>= fun v7 =>
 some (.inl ((IntKind.i64.wrap (x1.1 + 1)), v7.f_form, v7.f_deep, v7.f_blocks, v7.f_parens, v7.f_out)))
 else (some (.inr (.inr (x1.2.1, x1.2.2.1, x1.2.2.2.1, x1.2.2.2.2.1, x1.2.2.2.2.2))))

noncomputable def z92 (a0 : z01) (a1 : z59) : Option z01 :=
 z0d a0 [(ByteArray.mk #[112, 114, 111, 99])] >>= fun v1 =>
 z1i v1 a1.Name >>= fun v2 =>
 z0d v2 [(ByteArray.mk #[123])] >>= fun v3 =>
 iter (z7l a1) (0, v3.f_form, v3.f_deep, v3.f_blocks, v3.f_parens, v3.f_out) >>= Sum.elim (fun _ => none) (fun j1 =>
 zb7 (z01.mk j1.2.2.2.2 j1.1 j1.2.1 j1.2.2.1 j1.2.2.2.1) a1.Body >>= fun v8 =>
 z0d v8 [(ByteArray.mk #[125])] >>= fun v9 =>
 some v9)

def zcu (r : z01) : List XV := []

def zcv (r : z01) : z0r := [oB 164 [.row 1, .pv (.bool r.f_form), .pv (.bool r.f_deep), .pv (.int .i64 r.f_blocks), .pv (.int .i64 r.f_parens)], oR true 9 1 (List.map z0a r.f_out)]

noncomputable def zll (r : z01) : Tg := .r false Tryz.f69.results.toList 2 (zcu r) (zcv r)

noncomputable def za4 (a0 : z2l) (x1 : (Int × Bool × Bool × Int × Int × (List ByteArray))) : Option (Sum (Int × Bool × Bool × Int × Int × (List ByteArray)) (Sum ((List ByteArray) × Int) (Bool × Bool × Int × Int × (List ByteArray)))) :=
 if (decide (x1.1 < (a0.Chans.length : Int))) then (idx a0.Chans x1.1 >>= fun v1 =>
 z7k (z01.mk x1.2.2.2.2.2 x1.2.1 x1.2.2.1 x1.2.2.2.1 x1.2.2.2.2.1) v1 >>= fun v2 =>
 some (.inl ((IntKind.i64.wrap (x1.1 + 1)), v2.f_form, v2.f_deep, v2.f_blocks, v2.f_parens, v2.f_out)))
 else (some (.inr (.inr (x1.2.1, x1.2.2.1, x1.2.2.2.1, x1.2.2.2.2.1, x1.2.2.2.2.2))))

noncomputable def za5 (a0 : z2l) (x2 : (Int × Bool × Bool × Int × Int × (List ByteArray))) : Option (Sum (Int × Bool × Bool × Int × Int × (List ByteArray)) (Sum ((List ByteArray) × Int) (Bool × Bool × Int × Int × (List ByteArray)))) :=
 if (decide (x2.1 < (a0.Rules.length : Int))) then (idx a0.Rules x2.1 >>= fun v3 =>
 z91 (z01.mk x2.2.2.2.2.2 x2.2.1 x2.2.2.1 x2.2.2.2.1 x2.2.2.2.2.1) v3 >>= fun v4 =>
 some (.inl ((IntKind.i64.wrap (x2.1 + 1)), v4.f_form, v4.f_deep, v4.f_blocks, v4.f_parens, v4.f_out)))
 else (some (.inr (.inr (x2.2.1, x2.2.2.1, x2.2.2.2.1, x2.2.2.2.2.1, x2.2.2.2.2.2))))

noncomputable def za6 (a0 : z2l) (x3 : (Int × Bool × Bool × Int × Int × (List ByteArray))) : Option (Sum (Int × Bool × Bool × Int × Int × (List ByteArray)) (Sum ((List ByteArray) × Int) (Bool × Bool × Int × Int × (List ByteArray)))) :=
 if (decide (x3.1 < (a0.Procs.length : Int))) then (idx a0.Procs x3.1 >>= fun v5 =>
 z92 (z01.mk x3.2.2.2.2.2 x3.2.1 x3.2.2.1 x3.2.2.2.1 x3.2.2.2.2.1) v5 >>= fun v6 =>
 some (.inl ((IntKind.i64.wrap (x3.1 + 1)), v6.f_form, v6.f_deep, v6.f_blocks, v6.f_parens, v6.f_out)))
 else (some (.inr (.inr (x3.2.1, x3.2.2.1, x3.2.2.2.1, x3.2.2.2.2.1, x3.2.2.2.2.2))))

noncomputable def zhh (a0 : z2l) : Option ((List ByteArray) × Int) :=
 iter (za4 a0) (0, false, false, 0, 0, []) >>= Sum.elim (fun _ => none) (fun j1 =>
 iter (za5 a0) (0, j1.1, j1.2.1, j1.2.2.1, j1.2.2.2.1, j1.2.2.2.2) >>= Sum.elim (fun _ => none) (fun j2 =>
 iter (za6 a0) (0, j2.1, j2.2.1, j2.2.2.1, j2.2.2.2.1, j2.2.2.2.2) >>= Sum.elim (fun _ => none) (fun j3 =>
 if j3.1 then (some ([], 5))
 else (if j3.2.1 then (some ([], 6))
 else (if (decide ((j3.2.2.2.2.length : Int) > 2000)) then (some ([], 4))
 else (some (j3.2.2.2.2, 0)))))))

def zgm (r : ((List ByteArray) × Int)) : List XV := [xL (List.map z0a r.1), xI r.2]

def znc (r : ((List ByteArray) × Int)) : z0r := []

noncomputable def zjb (r : ((List ByteArray) × Int)) : Tg := .r false Tryz.f37.results.toList 0 (zgm r) (znc r)

noncomputable def zcc (a0 : z2l) : Option Bool :=
 zhh a0 >>= fun v1 =>
 some (v1.2 != 5)

def zes (r : Bool) : List XV := [xB r]

def znd (r : Bool) : z0r := []

noncomputable def zdu (a0 : z02) (a1 : Int) : Option z02 :=
 if (a0.f_e == 0) then (some (z02.mk a0.f_s a0.f_p a0.f_chans a0.f_procs a0.f_proc a0.f_vars a1))
 else (some a0)

def zfh (r : z02) : List XV := []

def zfi (r : z02) : z0r := [oB 85 [.pv (.sl (List.map z0e r.f_s.Chans)), .pv (.sl (List.map z0i r.f_s.Rules)), .pv (.sl (List.map z0g r.f_s.Procs)), .row 1, .row 2, .row 3, .row 4, .pv (.int .i64 r.f_proc), .pv (.sl (List.map z0a r.f_vars)), .pv (.int .i64 r.f_e)], oR false 46 6 (List.map z04 r.f_p.Chans), oR false 51 2 (List.map z0b r.f_p.Procs), oR false 9 1 (List.map z0a r.f_chans), oR false 9 1 (List.map z0a r.f_procs)]

noncomputable def z1w (a0 : z02) (a1 : Bool) (a2 : Int) : Option z02 :=
 if (!a1) then (zdu a0 a2 >>= fun v1 =>
 some v1)
 else (some a0)

def z2p (r : z02) : List XV := []

def z2q (r : z02) : z0r := [oB 85 [.pv (.sl (List.map z0e r.f_s.Chans)), .pv (.sl (List.map z0i r.f_s.Rules)), .pv (.sl (List.map z0g r.f_s.Procs)), .row 1, .row 2, .row 3, .row 4, .pv (.int .i64 r.f_proc), .pv (.sl (List.map z0a r.f_vars)), .pv (.int .i64 r.f_e)], oR false 46 6 (List.map z04 r.f_p.Chans), oR false 51 2 (List.map z0b r.f_p.Procs), oR false 9 1 (List.map z0a r.f_chans), oR false 9 1 (List.map z0a r.f_procs)]

noncomputable def z3r (a0 : (List ByteArray)) (a1 : ByteArray) (x1 : Int) : Option (Sum Int (Sum Int Unit)) :=
 if (decide (x1 < (a0.length : Int))) then (idx a0 x1 >>= fun v1 =>
 if (a1.toList == v1.toList) then (some (.inr (.inl x1)))
 else (some (.inl (IntKind.i64.wrap (x1 + 1)))))
 else (some (.inr (.inr ())))

noncomputable def z1j (a0 : (List ByteArray)) (a1 : ByteArray) : Option Int :=
 iter (z3r a0 a1) 0 >>= Sum.elim (fun r => some r) (fun j1 =>
 some (-1))

def z3y (r : Int) : List XV := [xI r]

def z9h (r : Int) : z0r := []

noncomputable def zdv (r : Int) : Tg := .r false Tryz.f72.results.toList 0 (z3y r) (z9h r)

noncomputable def z2r (a0 : (List ByteArray)) (a1 : ByteArray) : Option Bool :=
 z1j a0 a1 >>= fun v1 =>
 some (decide (v1 ≥ 0))

def z4x (r : Bool) : List XV := [xB r]

def zck (r : Bool) : z0r := []

noncomputable def z93 (a0 : z02) (a2 : ByteArray) : Option (z02 × (List ByteArray)) :=
 z2r a0.f_chans a2 >>= fun v1 =>
 z1w a0 (!v1) 7 >>= fun v2 =>
 app 16 v2.f_chans [a2] >>= fun v3 =>
 some ((z02.mk v2.f_s v2.f_p [] v2.f_procs v2.f_proc v2.f_vars v2.f_e), v3)

def zg8 (r : (z02 × (List ByteArray))) : List XV := [xR 3]

def zg9 (r : (z02 × (List ByteArray))) : z0r := [oB 85 [.pv (.sl (List.map z0e r.1.f_s.Chans)), .pv (.sl (List.map z0i r.1.f_s.Rules)), .pv (.sl (List.map z0g r.1.f_s.Procs)), .row 1, .row 2, .any, .row 4, .pv (.int .i64 r.1.f_proc), .pv (.sl (List.map z0a r.1.f_vars)), .pv (.int .i64 r.1.f_e)], oR false 46 6 (List.map z04 r.1.f_p.Chans), oR false 51 2 (List.map z0b r.1.f_p.Procs), oR true 9 1 (List.map z0a r.2), oR false 9 1 (List.map z0a r.1.f_procs)]

noncomputable def z94 (a0 : z02) (a1 : (List ByteArray)) (a2 : ByteArray) : Option (z02 × (List ByteArray) × (List ByteArray)) :=
 z2r a1 a2 >>= fun v1 =>
 z1w a0 (!v1) 7 >>= fun v2 =>
 app 16 a1 [a2] >>= fun v3 =>
 some (v2, v3, v3)

def zbj (r : (z02 × (List ByteArray) × (List ByteArray))) : List XV := [xR 5]

def zbk (r : (z02 × (List ByteArray) × (List ByteArray))) : z0r := [oB 85 [.pv (.sl (List.map z0e r.1.f_s.Chans)), .pv (.sl (List.map z0i r.1.f_s.Rules)), .pv (.sl (List.map z0g r.1.f_s.Procs)), .row 1, .row 2, .row 3, .row 4, .pv (.int .i64 r.1.f_proc), .pv (.sl (List.map z0a r.1.f_vars)), .pv (.int .i64 r.1.f_e)], oR false 46 6 (List.map z04 r.1.f_p.Chans), oR false 51 2 (List.map z0b r.1.f_p.Procs), oR false 9 1 (List.map z0a r.1.f_chans), oR false 9 1 (List.map z0a r.1.f_procs), oR true 9 1 (List.map z0a r.2.1)]

noncomputable def z8x (a1 : (List ByteArray)) (x1 : (Int × z02 × (List z0m) × (List z0w) × (List ByteArray) × (List ByteArray) × (List ByteArray))) : Option (Sum (Int × z02 × (List z0m) × (List z0w) × (List ByteArray) × (List ByteArray) × (List ByteArray)) (Sum z02 (z02 × (List z0m) × (List z0w) × (List ByteArray) × (List ByteArray)))) :=
 if (decide (x1.1 < (a1.length : Int))) then (idx a1 x1.1 >>= fun v1 =>
 z94 (z02.mk x1.2.1.f_s (z10.mk x1.2.2.1 x1.2.2.2.1) x1.2.2.2.2.1 x1.2.2.2.2.2.1 x1.2.1.f_proc x1.2.1.f_vars x1.2.1.f_e) x1.2.2.2.2.2.2 v1 >>= fun v2 =>
 some (.inl ((IntKind.i64.wrap (x1.1 + 1)), v2.1, v2.1.f_p.Chans, v2.1.f_p.Procs, v2.1.f_chans, v2.1.f_procs, v2.2.1)))
 else (some (.inr (.inr ((z02.mk x1.2.1.f_s (z10.mk x1.2.2.1 x1.2.2.2.1) x1.2.2.2.2.1 x1.2.2.2.2.2.1 x1.2.1.f_proc x1.2.1.f_vars x1.2.1.f_e), x1.2.2.1, x1.2.2.2.1, x1.2.2.2.2.1, x1.2.2.2.2.2.1))))

noncomputable def z60 (a0 : z02) (a1 : (List ByteArray)) : Option z02 :=
 iter (z8x a1) (0, a0, a0.f_p.Chans, a0.f_p.Procs, a0.f_chans, a0.f_procs, []) >>= Sum.elim (fun _ => none) (fun j1 =>
 some (z02.mk j1.1.f_s (z10.mk j1.2.1 j1.2.2.1) j1.2.2.2.1 j1.2.2.2.2 j1.1.f_proc j1.1.f_vars j1.1.f_e))

def z9c (r : z02) : List XV := []

def z9d (r : z02) : z0r := [oB 85 [.pv (.sl (List.map z0e r.f_s.Chans)), .pv (.sl (List.map z0i r.f_s.Rules)), .pv (.sl (List.map z0g r.f_s.Procs)), .row 1, .row 2, .row 3, .row 4, .pv (.int .i64 r.f_proc), .pv (.sl (List.map z0a r.f_vars)), .pv (.int .i64 r.f_e)], oR false 46 6 (List.map z04 r.f_p.Chans), oR false 51 2 (List.map z0b r.f_p.Procs), oR false 9 1 (List.map z0a r.f_chans), oR false 9 1 (List.map z0a r.f_procs)]

noncomputable def zjc (r : z02) : Tg := .r false Tryz.f40.results.toList 5 (z9c r) (z9d r)

noncomputable def z8f (v1 : z02) (x1 : (Int × z02 × (List z0m) × (List z0w) × (List ByteArray) × (List ByteArray))) : Option (Sum (Int × z02 × (List z0m) × (List z0w) × (List ByteArray) × (List ByteArray)) (Sum z02 (z02 × (List z0m) × (List z0w) × (List ByteArray) × (List ByteArray)))) :=
 if (decide (x1.1 < (v1.f_s.Chans.length : Int))) then (idx v1.f_s.Chans x1.1 >>= fun v2 =>
 z93 (z02.mk x1.2.1.f_s (z10.mk x1.2.2.1 x1.2.2.2.1) x1.2.2.2.2.1 x1.2.2.2.2.2 x1.2.1.f_proc x1.2.1.f_vars x1.2.1.f_e) v2.Name >>= fun v3 =>
 ((if (decide (v2.Size ≥ 1)) then (if (decide (v2.Size ≤ 16)) then (z1w (z02.mk v3.1.f_s v3.1.f_p v3.2 v3.1.f_procs v3.1.f_proc v3.1.f_vars v3.1.f_e) (decide ((v2.Tags.length : Int) ≤ 4)) 10 >>= fun v4 =>
 some (v4, v4.f_p.Chans, v4.f_p.Procs, v4.f_chans, v4.f_procs))
 else (z1w (z02.mk v3.1.f_s v3.1.f_p v3.2 v3.1.f_procs v3.1.f_proc v3.1.f_vars v3.1.f_e) false 10 >>= fun v5 =>
 some (v5, v5.f_p.Chans, v5.f_p.Procs, v5.f_chans, v5.f_procs)))
 else (z1w (z02.mk v3.1.f_s v3.1.f_p v3.2 v3.1.f_procs v3.1.f_proc v3.1.f_vars v3.1.f_e) false 10 >>= fun v6 =>
 some (v6, v6.f_p.Chans, v6.f_p.Procs, v6.f_chans, v6.f_procs)) : Option (z02 × (List z0m) × (List z0w) × (List ByteArray) × (List ByteArray))) >>= fun j2 =>
 z60 (z02.mk j2.1.f_s (z10.mk j2.2.1 j2.2.2.1) j2.2.2.2.1 j2.2.2.2.2 j2.1.f_proc j2.1.f_vars j2.1.f_e) v2.Tags >>= fun v7 =>
 app 64 v7.f_p.Chans [(z0m.mk v2.Kind v2.Size 0 0 (v2.Tags.length : Int) [])] >>= fun v8 =>
 some (.inl ((IntKind.i64.wrap (x1.1 + 1)), (z02.mk v7.f_s (z10.mk v8 v7.f_p.Procs) v7.f_chans v7.f_procs v7.f_proc v7.f_vars v7.f_e), v8, v7.f_p.Procs, v7.f_chans, v7.f_procs))))
 else (some (.inr (.inr ((z02.mk x1.2.1.f_s (z10.mk x1.2.2.1 x1.2.2.2.1) x1.2.2.2.2.1 x1.2.2.2.2.2 x1.2.1.f_proc x1.2.1.f_vars x1.2.1.f_e), x1.2.2.1, x1.2.2.2.1, x1.2.2.2.2.1, x1.2.2.2.2.2))))

noncomputable def z87 (a0 : z02) : Option z02 :=
 z1w a0 (decide ((a0.f_s.Chans.length : Int) ≤ 4)) 10 >>= fun v1 =>
 iter (z8f v1) (0, v1, v1.f_p.Chans, v1.f_p.Procs, v1.f_chans, v1.f_procs) >>= Sum.elim (fun _ => none) (fun j1 =>
 some (z02.mk j1.1.f_s (z10.mk j1.2.1 j1.2.2.1) j1.2.2.2.1 j1.2.2.2.2 j1.1.f_proc j1.1.f_vars j1.1.f_e))

def za7 (r : z02) : List XV := []

def za8 (r : z02) : z0r := [oB 85 [.pv (.sl (List.map z0e r.f_s.Chans)), .pv (.sl (List.map z0i r.f_s.Rules)), .pv (.sl (List.map z0g r.f_s.Procs)), .row 1, .row 2, .row 3, .row 4, .pv (.int .i64 r.f_proc), .pv (.sl (List.map z0a r.f_vars)), .pv (.int .i64 r.f_e)], oR true 46 6 (List.map z04 r.f_p.Chans), oR false 51 2 (List.map z0b r.f_p.Procs), oR true 9 1 (List.map z0a r.f_chans), oR false 9 1 (List.map z0a r.f_procs)]

noncomputable def zhi (r : z02) : Tg := .r false Tryz.f22.results.toList 5 (za7 r) (za8 r)

noncomputable def z61 (a0 : z02) (a2 : ByteArray) : Option (z02 × (List ByteArray)) :=
 z2r a0.f_procs a2 >>= fun v1 =>
 z1w a0 (!v1) 7 >>= fun v2 =>
 app 16 v2.f_procs [a2] >>= fun v3 =>
 some ((z02.mk v2.f_s v2.f_p v2.f_chans [] v2.f_proc v2.f_vars v2.f_e), v3)

def zet (r : (z02 × (List ByteArray))) : List XV := [xR 4]

def zeu (r : (z02 × (List ByteArray))) : z0r := [oB 85 [.pv (.sl (List.map z0e r.1.f_s.Chans)), .pv (.sl (List.map z0i r.1.f_s.Rules)), .pv (.sl (List.map z0g r.1.f_s.Procs)), .row 1, .row 2, .row 3, .any, .pv (.int .i64 r.1.f_proc), .pv (.sl (List.map z0a r.1.f_vars)), .pv (.int .i64 r.1.f_e)], oR false 46 6 (List.map z04 r.1.f_p.Chans), oR false 51 2 (List.map z0b r.1.f_p.Procs), oR false 9 1 (List.map z0a r.1.f_chans), oR true 9 1 (List.map z0a r.2)]

noncomputable def z5d (a0 : z02) (a2 : ByteArray) : Option (z02 × Int) :=
 z1j a0.f_procs a2 >>= fun v1 =>
 z1w a0 (decide (v1 ≥ 0)) 8 >>= fun v2 =>
 some (v2, (max v1 0))

def zbl (r : (z02 × Int)) : List XV := [xI r.2]

def zbm (r : (z02 × Int)) : z0r := [oB 85 [.pv (.sl (List.map z0e r.1.f_s.Chans)), .pv (.sl (List.map z0i r.1.f_s.Rules)), .pv (.sl (List.map z0g r.1.f_s.Procs)), .row 1, .row 2, .row 3, .row 4, .pv (.int .i64 r.1.f_proc), .pv (.sl (List.map z0a r.1.f_vars)), .pv (.int .i64 r.1.f_e)], oR false 46 6 (List.map z04 r.1.f_p.Chans), oR false 51 2 (List.map z0b r.1.f_p.Procs), oR false 9 1 (List.map z0a r.1.f_chans), oR false 9 1 (List.map z0a r.1.f_procs)]

noncomputable def z68 (j1 : (z02 × (List z0m) × (List z0w) × (List ByteArray) × (List ByteArray))) (x2 : (Int × z02 × (List z0m) × (List z0w) × (List ByteArray) × (List ByteArray))) : Option (Sum (Int × z02 × (List z0m) × (List z0w) × (List ByteArray) × (List ByteArray)) (Sum z02 (z02 × (List z0m) × (List z0w) × (List ByteArray) × (List ByteArray)))) :=
 if (decide (x2.1 < (j1.1.f_s.Procs.length : Int))) then (idx j1.1.f_s.Procs x2.1 >>= fun v3 =>
 z61 (z02.mk x2.2.1.f_s (z10.mk x2.2.2.1 x2.2.2.2.1) x2.2.2.2.2.1 x2.2.2.2.2.2 x2.2.1.f_proc x2.2.1.f_vars x2.2.1.f_e) v3.Name >>= fun v4 =>
 some (.inl ((IntKind.i64.wrap (x2.1 + 1)), (z02.mk v4.1.f_s v4.1.f_p v4.1.f_chans v4.2 v4.1.f_proc v4.1.f_vars v4.1.f_e), v4.1.f_p.Chans, v4.1.f_p.Procs, v4.1.f_chans, v4.2)))
 else (some (.inr (.inr ((z02.mk x2.2.1.f_s (z10.mk x2.2.2.1 x2.2.2.2.1) x2.2.2.2.2.1 x2.2.2.2.2.2 x2.2.1.f_proc x2.2.1.f_vars x2.2.1.f_e), x2.2.2.1, x2.2.2.2.1, x2.2.2.2.2.1, x2.2.2.2.2.2))))

noncomputable def z79 (j2 : (z02 × (List z0m) × (List z0w) × (List ByteArray) × (List ByteArray))) (x3 : (Int × z02 × (List z0m) × (List z0w) × (List ByteArray) × (List ByteArray))) : Option (Sum (Int × z02 × (List z0m) × (List z0w) × (List ByteArray) × (List ByteArray)) (Sum z02 (z02 × (List z0m) × (List z0w) × (List ByteArray) × (List ByteArray)))) :=
 if (decide (x3.1 < (j2.1.f_s.Chans.length : Int))) then (idx j2.1.f_s.Chans x3.1 >>= fun v5 =>
 idx x3.2.2.1 x3.1 >>= fun v6 =>
 z5d (z02.mk x3.2.1.f_s (z10.mk x3.2.2.1 x3.2.2.2.1) x3.2.2.2.2.1 x3.2.2.2.2.2 x3.2.1.f_proc x3.2.1.f_vars x3.2.1.f_e) v5.From >>= fun v7 =>
 idx v7.1.f_p.Chans x3.1 >>= fun v8 =>
 z5d (z02.mk v7.1.f_s (z10.mk (seti v7.1.f_p.Chans x3.1 (z0m.mk v8.Kind v8.Size v7.2 v8.To v8.Tags v8.Rule)) v7.1.f_p.Procs) v7.1.f_chans v7.1.f_procs v7.1.f_proc v7.1.f_vars v7.1.f_e) v5.To >>= fun v9 =>
 idx v9.1.f_p.Chans x3.1 >>= fun v10 =>
 idx (seti v9.1.f_p.Chans x3.1 (z0m.mk v10.Kind v10.Size v10.From v9.2 v10.Tags v10.Rule)) x3.1 >>= fun v11 =>
 z1w (z02.mk v9.1.f_s (z10.mk (seti v9.1.f_p.Chans x3.1 (z0m.mk v10.Kind v10.Size v10.From v9.2 v10.Tags v10.Rule)) v9.1.f_p.Procs) v9.1.f_chans v9.1.f_procs v9.1.f_proc v9.1.f_vars v9.1.f_e) (v11.From != v11.To) 9 >>= fun v12 =>
 some (.inl ((IntKind.i64.wrap (x3.1 + 1)), v12, v12.f_p.Chans, v12.f_p.Procs, v12.f_chans, v12.f_procs)))
 else (some (.inr (.inr ((z02.mk x3.2.1.f_s (z10.mk x3.2.2.1 x3.2.2.2.1) x3.2.2.2.2.1 x3.2.2.2.2.2 x3.2.1.f_proc x3.2.1.f_vars x3.2.1.f_e), x3.2.2.1, x3.2.2.2.1, x3.2.2.2.2.1, x3.2.2.2.2.2))))

noncomputable def z9i (a0 : z02) : Option z02 :=
 ((if (decide ((a0.f_s.Procs.length : Int) ≥ 1)) then (z1w a0 (decide ((a0.f_s.Procs.length : Int) ≤ 4)) 10 >>= fun v1 =>
 some (v1, v1.f_p.Chans, v1.f_p.Procs, v1.f_chans, v1.f_procs))
 else (z1w a0 false 10 >>= fun v2 =>
 some (v2, v2.f_p.Chans, v2.f_p.Procs, v2.f_chans, v2.f_procs)) : Option (z02 × (List z0m) × (List z0w) × (List ByteArray) × (List ByteArray))) >>= fun j1 =>
 iter (z68 j1) (0, (z02.mk j1.1.f_s (z10.mk j1.2.1 j1.2.2.1) j1.2.2.2.1 j1.2.2.2.2 j1.1.f_proc j1.1.f_vars j1.1.f_e), j1.2.1, j1.2.2.1, j1.2.2.2.1, j1.2.2.2.2) >>= Sum.elim (fun _ => none) (fun j2 =>
 iter (z79 j2) (0, (z02.mk j2.1.f_s (z10.mk j2.2.1 j2.2.2.1) j2.2.2.2.1 j2.2.2.2.2 j2.1.f_proc j2.1.f_vars j2.1.f_e), j2.2.1, j2.2.2.1, j2.2.2.2.1, j2.2.2.2.2) >>= Sum.elim (fun _ => none) (fun j3 =>
 some (z02.mk j3.1.f_s (z10.mk j3.2.1 j3.2.2.1) j3.2.2.2.1 j3.2.2.2.2 j3.1.f_proc j3.1.f_vars j3.1.f_e))))

def zcd (r : z02) : List XV := []

def zce (r : z02) : z0r := [oB 85 [.pv (.sl (List.map z0e r.f_s.Chans)), .pv (.sl (List.map z0i r.f_s.Rules)), .pv (.sl (List.map z0g r.f_s.Procs)), .row 1, .row 2, .row 3, .row 4, .pv (.int .i64 r.f_proc), .pv (.sl (List.map z0a r.f_vars)), .pv (.int .i64 r.f_e)], oR false 46 6 (List.map z04 r.f_p.Chans), oR false 51 2 (List.map z0b r.f_p.Procs), oR false 9 1 (List.map z0a r.f_chans), oR true 9 1 (List.map z0a r.f_procs)]

noncomputable def zfj (r : z02) : Tg := .r false Tryz.f23.results.toList 5 (zcd r) (zce r)

noncomputable def z4j (a0 : z02) (a1 : (List ByteArray)) (a2 : ByteArray) : Option (z02 × Int) :=
 z1j a1 a2 >>= fun v1 =>
 z1w a0 (decide (v1 ≥ 0)) 8 >>= fun v2 =>
 some (v2, (max v1 0))

def z5r (r : (z02 × Int)) : List XV := [xI r.2]

def z5s (r : (z02 × Int)) : z0r := [oB 85 [.pv (.sl (List.map z0e r.1.f_s.Chans)), .pv (.sl (List.map z0i r.1.f_s.Rules)), .pv (.sl (List.map z0g r.1.f_s.Procs)), .row 1, .row 2, .row 3, .row 4, .pv (.int .i64 r.1.f_proc), .pv (.sl (List.map z0a r.1.f_vars)), .pv (.int .i64 r.1.f_e)], oR false 46 6 (List.map z04 r.1.f_p.Chans), oR false 51 2 (List.map z0b r.1.f_p.Procs), oR false 9 1 (List.map z0a r.1.f_chans), oR false 9 1 (List.map z0a r.1.f_procs)]

noncomputable def zbn (F_check_maker_expr : z02 → z05 → Option (z02 × z0h)) (a1 : z05) (x1 : (Int × z02 × (List z0m) × (List z0w) × (List ByteArray) × (List ByteArray) × (List z0h))) : Option (Sum (Int × z02 × (List z0m) × (List z0w) × (List ByteArray) × (List ByteArray) × (List z0h)) (Sum (z02 × z0h) (z02 × (List z0m) × (List z0w) × (List ByteArray) × (List ByteArray) × (List z0h)))) :=
 if (decide (x1.1 < (a1.Kids.length : Int))) then (idx a1.Kids x1.1 >>= fun v1 =>
 F_check_maker_expr (z02.mk x1.2.1.f_s (z10.mk x1.2.2.1 x1.2.2.2.1) x1.2.2.2.2.1 x1.2.2.2.2.2.1 x1.2.1.f_proc x1.2.1.f_vars x1.2.1.f_e) v1 >>= fun v2 =>
 app 48 x1.2.2.2.2.2.2 [v2.2] >>= fun v3 =>
 some (.inl ((IntKind.i64.wrap (x1.1 + 1)), v2.1, v2.1.f_p.Chans, v2.1.f_p.Procs, v2.1.f_chans, v2.1.f_procs, v3)))
 else (some (.inr (.inr ((z02.mk x1.2.1.f_s (z10.mk x1.2.2.1 x1.2.2.2.1) x1.2.2.2.2.1 x1.2.2.2.2.2.1 x1.2.1.f_proc x1.2.1.f_vars x1.2.1.f_e), x1.2.2.1, x1.2.2.2.1, x1.2.2.2.2.1, x1.2.2.2.2.2.1, x1.2.2.2.2.2.2))))

noncomputable def zbo (F_check_maker_expr : z02 → z05 → Option (z02 × z0h)) (a1 : z05) (x2 : (Int × z02 × (List z0m) × (List z0w) × (List ByteArray) × (List ByteArray) × (List z0h))) : Option (Sum (Int × z02 × (List z0m) × (List z0w) × (List ByteArray) × (List ByteArray) × (List z0h)) (Sum (z02 × z0h) (z02 × (List z0m) × (List z0w) × (List ByteArray) × (List ByteArray) × (List z0h)))) :=
 if (decide (x2.1 < (a1.Kids.length : Int))) then (idx a1.Kids x2.1 >>= fun v5 =>
 F_check_maker_expr (z02.mk x2.2.1.f_s (z10.mk x2.2.2.1 x2.2.2.2.1) x2.2.2.2.2.1 x2.2.2.2.2.2.1 x2.2.1.f_proc x2.2.1.f_vars x2.2.1.f_e) v5 >>= fun v6 =>
 app 48 x2.2.2.2.2.2.2 [v6.2] >>= fun v7 =>
 some (.inl ((IntKind.i64.wrap (x2.1 + 1)), v6.1, v6.1.f_p.Chans, v6.1.f_p.Procs, v6.1.f_chans, v6.1.f_procs, v7)))
 else (some (.inr (.inr ((z02.mk x2.2.1.f_s (z10.mk x2.2.2.1 x2.2.2.2.1) x2.2.2.2.2.1 x2.2.2.2.2.2.1 x2.2.1.f_proc x2.2.1.f_vars x2.2.1.f_e), x2.2.2.1, x2.2.2.2.1, x2.2.2.2.2.1, x2.2.2.2.2.2.1, x2.2.2.2.2.2.2))))

noncomputable def zbp (F_check_maker_expr : z02 → z05 → Option (z02 × z0h)) (a1 : z05) (x3 : (Int × z02 × (List z0m) × (List z0w) × (List ByteArray) × (List ByteArray) × (List z0h))) : Option (Sum (Int × z02 × (List z0m) × (List z0w) × (List ByteArray) × (List ByteArray) × (List z0h)) (Sum (z02 × z0h) (z02 × (List z0m) × (List z0w) × (List ByteArray) × (List ByteArray) × (List z0h)))) :=
 if (decide (x3.1 < (a1.Kids.length : Int))) then (idx a1.Kids x3.1 >>= fun v8 =>
 F_check_maker_expr (z02.mk x3.2.1.f_s (z10.mk x3.2.2.1 x3.2.2.2.1) x3.2.2.2.2.1 x3.2.2.2.2.2.1 x3.2.1.f_proc x3.2.1.f_vars x3.2.1.f_e) v8 >>= fun v9 =>
 app 48 x3.2.2.2.2.2.2 [v9.2] >>= fun v10 =>
 some (.inl ((IntKind.i64.wrap (x3.1 + 1)), v9.1, v9.1.f_p.Chans, v9.1.f_p.Procs, v9.1.f_chans, v9.1.f_procs, v10)))
 else (some (.inr (.inr ((z02.mk x3.2.1.f_s (z10.mk x3.2.2.1 x3.2.2.2.1) x3.2.2.2.2.1 x3.2.2.2.2.2.1 x3.2.1.f_proc x3.2.1.f_vars x3.2.1.f_e), x3.2.2.1, x3.2.2.2.1, x3.2.2.2.2.1, x3.2.2.2.2.2.1, x3.2.2.2.2.2.2))))

def z4b (r : (z02 × z0h)) : List XV := [.agg (bs (z6e r.2))]

def z4c (r : (z02 × z0h)) : z0r := [oB 85 [.pv (.sl (List.map z0e r.1.f_s.Chans)), .pv (.sl (List.map z0i r.1.f_s.Rules)), .pv (.sl (List.map z0g r.1.f_s.Procs)), .row 1, .row 2, .row 3, .row 4, .pv (.int .i64 r.1.f_proc), .pv (.sl (List.map z0a r.1.f_vars)), .pv (.int .i64 r.1.f_e)], oR false 46 6 (List.map z04 r.1.f_p.Chans), oR false 51 2 (List.map z0b r.1.f_p.Procs), oR false 9 1 (List.map z0a r.1.f_chans), oR false 9 1 (List.map z0a r.1.f_procs)]

noncomputable def zcf (r : (z02 × z0h)) : Tg := .r false Tryz.f94.results.toList 5 (z4b r) (z4c r)

noncomputable def z48 : Nat → z02 → z05 → Option (z02 × z0h)
  | 0, _, _ => none
  | n + 1, a0, a1 => if (a1.Kind == 1) then (iter (zbn (z48 n) a1) (0, a0, a0.f_p.Chans, a0.f_p.Procs, a0.f_chans, a0.f_procs, []) >>= Sum.elim (fun _ => none) (fun j1 =>
 some ((z02.mk j1.1.f_s (z10.mk j1.2.1 j1.2.2.1) j1.2.2.2.1 j1.2.2.2.2.1 j1.1.f_proc j1.1.f_vars j1.1.f_e), (z0h.mk a1.Kind a1.Num 0 j1.2.2.2.2.2))))
 else (if (a1.Kind == 2) then (z4j a0 a0.f_vars a1.Name >>= fun v4 =>
 iter (zbo (z48 n) a1) (0, v4.1, v4.1.f_p.Chans, v4.1.f_p.Procs, v4.1.f_chans, v4.1.f_procs, []) >>= Sum.elim (fun _ => none) (fun j2 =>
 some ((z02.mk j2.1.f_s (z10.mk j2.2.1 j2.2.2.1) j2.2.2.2.1 j2.2.2.2.2.1 j2.1.f_proc j2.1.f_vars j2.1.f_e), (z0h.mk a1.Kind 0 v4.2 j2.2.2.2.2.2))))
 else (iter (zbp (z48 n) a1) (0, a0, a0.f_p.Chans, a0.f_p.Procs, a0.f_chans, a0.f_procs, []) >>= Sum.elim (fun _ => none) (fun j3 =>
 some ((z02.mk j3.1.f_s (z10.mk j3.2.1 j3.2.2.1) j3.2.2.2.1 j3.2.2.2.2.1 j3.1.f_proc j3.1.f_vars j3.1.f_e), (z0h.mk a1.Kind 0 0 j3.2.2.2.2.2)))))

noncomputable def z7p (a0 : z02) (a1 : z05) : Option (z02 × z0h) := unf fun n => z48 n a0 a1

noncomputable def z9j (a0 : z02) (a1 : z5j) : Option (z02 × z4y) :=
 z7p a0 a1.L >>= fun v1 =>
 z7p v1.1 a1.R >>= fun v2 =>
 some (v2.1, (z4y.mk a1.Op v1.2 v2.2))

def z9v (r : (z02 × z4y)) : List XV := [.agg (bs (zde r.2))]

def z9w (r : (z02 × z4y)) : z0r := [oB 85 [.pv (.sl (List.map z0e r.1.f_s.Chans)), .pv (.sl (List.map z0i r.1.f_s.Rules)), .pv (.sl (List.map z0g r.1.f_s.Procs)), .row 1, .row 2, .row 3, .row 4, .pv (.int .i64 r.1.f_proc), .pv (.sl (List.map z0a r.1.f_vars)), .pv (.int .i64 r.1.f_e)], oR false 46 6 (List.map z04 r.1.f_p.Chans), oR false 51 2 (List.map z0b r.1.f_p.Procs), oR false 9 1 (List.map z0a r.1.f_chans), oR false 9 1 (List.map z0a r.1.f_procs)]

noncomputable def z7a (a0 : z02) (a2 : ByteArray) : Option (z02 × Int) :=
 z1j a0.f_chans a2 >>= fun v1 =>
 z1w a0 (decide (v1 ≥ 0)) 8 >>= fun v2 =>
 some (v2, (max v1 0))

def za9 (r : (z02 × Int)) : List XV := [xI r.2]

def zaa (r : (z02 × Int)) : z0r := [oB 85 [.pv (.sl (List.map z0e r.1.f_s.Chans)), .pv (.sl (List.map z0i r.1.f_s.Rules)), .pv (.sl (List.map z0g r.1.f_s.Procs)), .row 1, .row 2, .row 3, .row 4, .pv (.int .i64 r.1.f_proc), .pv (.sl (List.map z0a r.1.f_vars)), .pv (.int .i64 r.1.f_e)], oR false 46 6 (List.map z04 r.1.f_p.Chans), oR false 51 2 (List.map z0b r.1.f_p.Procs), oR false 9 1 (List.map z0a r.1.f_chans), oR false 9 1 (List.map z0a r.1.f_procs)]

noncomputable def zeh (a0 : z0m) : Option Int :=
 some a0.From

def zfk (r : Int) : List XV := [xI r]

def zql (r : Int) : z0r := []

noncomputable def z57 (a0 : z02) (a1 : ByteArray) : Option (z02 × Int × (List ByteArray)) :=
 z7a a0 a1 >>= fun v1 =>
 if (v1.1.f_e != 0) then (some (v1.1, 0, []))
 else (idx v1.1.f_p.Chans v1.2 >>= fun v2 =>
 zeh v2 >>= fun v3 =>
 z1w v1.1 (v3 == v1.1.f_proc) 9 >>= fun v4 =>
 idx v4.f_s.Chans v1.2 >>= fun v5 =>
 some (v4, v1.2, v5.Tags))

def z8t (r : (z02 × Int × (List ByteArray))) : List XV := [xI r.2.1, xL (List.map z0a r.2.2)]

def z8u (r : (z02 × Int × (List ByteArray))) : z0r := [oB 85 [.pv (.sl (List.map z0e r.1.f_s.Chans)), .pv (.sl (List.map z0i r.1.f_s.Rules)), .pv (.sl (List.map z0g r.1.f_s.Procs)), .row 1, .row 2, .row 3, .row 4, .pv (.int .i64 r.1.f_proc), .pv (.sl (List.map z0a r.1.f_vars)), .pv (.int .i64 r.1.f_e)], oR false 46 6 (List.map z04 r.1.f_p.Chans), oR false 51 2 (List.map z0b r.1.f_p.Procs), oR false 9 1 (List.map z0a r.1.f_chans), oR false 9 1 (List.map z0a r.1.f_procs)]

noncomputable def z9k (a0 : z02) (a1 : z06) : Option (z02 × z09) :=
 z57 a0 a1.Name >>= fun v1 =>
 z4j v1.1 v1.2.2 a1.Tag >>= fun v2 =>
 z7p v2.1 a1.E >>= fun v3 =>
 some (v3.1, (z09.mk a1.Kind 0 v1.2.1 v2.2 v3.2 (z4y.mk 0 (z0h.mk 0 0 0 []) (z0h.mk 0 0 0 [])) [] [] []))

def zfl (r : (z02 × z09)) : List XV := [.agg (bs (z7d r.2))]

def zfm (r : (z02 × z09)) : z0r := [oB 85 [.pv (.sl (List.map z0e r.1.f_s.Chans)), .pv (.sl (List.map z0i r.1.f_s.Rules)), .pv (.sl (List.map z0g r.1.f_s.Procs)), .row 1, .row 2, .row 3, .row 4, .pv (.int .i64 r.1.f_proc), .pv (.sl (List.map z0a r.1.f_vars)), .pv (.int .i64 r.1.f_e)], oR false 46 6 (List.map z04 r.1.f_p.Chans), oR false 51 2 (List.map z0b r.1.f_p.Procs), oR false 9 1 (List.map z0a r.1.f_chans), oR false 9 1 (List.map z0a r.1.f_procs)]

noncomputable def zkc (a0 : z0m) : Option Int :=
 some a0.To

def zi6 (r : Int) : List XV := [xI r]

def zvj (r : Int) : z0r := []

noncomputable def z7v (a0 : z02) (a1 : ByteArray) : Option (z02 × Int × (List ByteArray)) :=
 z7a a0 a1 >>= fun v1 =>
 if (v1.1.f_e != 0) then (some (v1.1, 0, []))
 else (idx v1.1.f_p.Chans v1.2 >>= fun v2 =>
 zkc v2 >>= fun v3 =>
 z1w v1.1 (v3 == v1.1.f_proc) 9 >>= fun v4 =>
 idx v4.f_s.Chans v1.2 >>= fun v5 =>
 some (v4, v1.2, v5.Tags))

def z97 (r : (z02 × Int × (List ByteArray))) : List XV := [xI r.2.1, xL (List.map z0a r.2.2)]

def z98 (r : (z02 × Int × (List ByteArray))) : z0r := [oB 85 [.pv (.sl (List.map z0e r.1.f_s.Chans)), .pv (.sl (List.map z0i r.1.f_s.Rules)), .pv (.sl (List.map z0g r.1.f_s.Procs)), .row 1, .row 2, .row 3, .row 4, .pv (.int .i64 r.1.f_proc), .pv (.sl (List.map z0a r.1.f_vars)), .pv (.int .i64 r.1.f_e)], oR false 46 6 (List.map z04 r.1.f_p.Chans), oR false 51 2 (List.map z0b r.1.f_p.Procs), oR false 9 1 (List.map z0a r.1.f_chans), oR false 9 1 (List.map z0a r.1.f_procs)]

noncomputable def z8y (F_check_maker_stmts : z02 → (List z06) → Option (z02 × (List z09))) (F_check_maker_stmt : z02 → z06 → Option (z02 × z09)) (F_check_maker_recv : z02 → z06 → Option (z02 × z09)) (a1 : (List z06)) (x1 : (Int × z02 × (List z0m) × (List z0w) × (List ByteArray) × (List ByteArray) × (List z09))) : Option (Sum (Int × z02 × (List z0m) × (List z0w) × (List ByteArray) × (List ByteArray) × (List z09)) (Sum (z02 × (List z09)) (z02 × (List z0m) × (List z0w) × (List ByteArray) × (List ByteArray) × (List z09)))) :=
 if (decide (x1.1 < (a1.length : Int))) then (idx a1 x1.1 >>= fun v1 =>
 if (x1.2.1.f_e != 0) then (some (.inr (.inr ((z02.mk x1.2.1.f_s (z10.mk x1.2.2.1 x1.2.2.2.1) x1.2.2.2.2.1 x1.2.2.2.2.2.1 x1.2.1.f_proc x1.2.1.f_vars x1.2.1.f_e), x1.2.2.1, x1.2.2.2.1, x1.2.2.2.2.1, x1.2.2.2.2.2.1, x1.2.2.2.2.2.2))))
 else (F_check_maker_stmt (z02.mk x1.2.1.f_s (z10.mk x1.2.2.1 x1.2.2.2.1) x1.2.2.2.2.1 x1.2.2.2.2.2.1 x1.2.1.f_proc x1.2.1.f_vars x1.2.1.f_e) v1 >>= fun v2 =>
 app 256 x1.2.2.2.2.2.2 [v2.2] >>= fun v3 =>
 some (.inl ((IntKind.i64.wrap (x1.1 + 1)), v2.1, v2.1.f_p.Chans, v2.1.f_p.Procs, v2.1.f_chans, v2.1.f_procs, v3))))
 else (some (.inr (.inr ((z02.mk x1.2.1.f_s (z10.mk x1.2.2.1 x1.2.2.2.1) x1.2.2.2.2.1 x1.2.2.2.2.2.1 x1.2.1.f_proc x1.2.1.f_vars x1.2.1.f_e), x1.2.2.1, x1.2.2.2.1, x1.2.2.2.2.1, x1.2.2.2.2.2.1, x1.2.2.2.2.2.2))))

def z3z (r : (z02 × (List z09))) : List XV := [xL (List.map z1g r.2)]

def z40 (r : (z02 × (List z09))) : z0r := [oB 85 [.pv (.sl (List.map z0e r.1.f_s.Chans)), .pv (.sl (List.map z0i r.1.f_s.Rules)), .pv (.sl (List.map z0g r.1.f_s.Procs)), .row 1, .row 2, .row 3, .row 4, .pv (.int .i64 r.1.f_proc), .pv (.sl (List.map z0a r.1.f_vars)), .pv (.int .i64 r.1.f_e)], oR false 46 6 (List.map z04 r.1.f_p.Chans), oR false 51 2 (List.map z0b r.1.f_p.Procs), oR false 9 1 (List.map z0a r.1.f_chans), oR false 9 1 (List.map z0a r.1.f_procs)]

noncomputable def zjd (r : (z02 × (List z09))) : Tg := .r false Tryz.f44.results.toList 5 (z3z r) (z40 r)

def z7m (r : (z02 × z09)) : List XV := [.agg (bs (z7d r.2))]

def z7n (r : (z02 × z09)) : z0r := [oB 85 [.pv (.sl (List.map z0e r.1.f_s.Chans)), .pv (.sl (List.map z0i r.1.f_s.Rules)), .pv (.sl (List.map z0g r.1.f_s.Procs)), .row 1, .row 2, .row 3, .row 4, .pv (.int .i64 r.1.f_proc), .pv (.sl (List.map z0a r.1.f_vars)), .pv (.int .i64 r.1.f_e)], oR false 46 6 (List.map z04 r.1.f_p.Chans), oR false 51 2 (List.map z0b r.1.f_p.Procs), oR false 9 1 (List.map z0a r.1.f_chans), oR false 9 1 (List.map z0a r.1.f_procs)]

noncomputable def zbq (F_check_maker_stmts : z02 → (List z06) → Option (z02 × (List z09))) (F_check_maker_stmt : z02 → z06 → Option (z02 × z09)) (F_check_maker_recv : z02 → z06 → Option (z02 × z09)) (a1 : z06) (v1 : (z02 × Int × (List ByteArray))) (x1 : (Int × z02 × (List z0m) × (List z0w) × (List ByteArray) × (List ByteArray) × (List ByteArray) × (List z2i))) : Option (Sum (Int × z02 × (List z0m) × (List z0w) × (List ByteArray) × (List ByteArray) × (List ByteArray) × (List z2i)) (Sum (z02 × z09) (z02 × (List z0m) × (List z0w) × (List ByteArray) × (List ByteArray) × (List z2i)))) :=
 if (decide (x1.1 < (a1.Arms.length : Int))) then (idx a1.Arms x1.1 >>= fun v2 =>
 z4j (z02.mk x1.2.1.f_s (z10.mk x1.2.2.1 x1.2.2.2.1) x1.2.2.2.2.1 x1.2.2.2.2.2.1 x1.2.1.f_proc x1.2.1.f_vars x1.2.1.f_e) v1.2.2 v2.Tag >>= fun v3 =>
 z94 v3.1 x1.2.2.2.2.2.2.1 v2.Tag >>= fun v4 =>
 z4j v4.1 v4.1.f_vars v2.Var >>= fun v5 =>
 F_check_maker_stmts v5.1 v2.Body >>= fun v6 =>
 app 40 x1.2.2.2.2.2.2.2 [(z2i.mk v3.2 v5.2 v6.2)] >>= fun v7 =>
 some (.inl ((IntKind.i64.wrap (x1.1 + 1)), v6.1, v6.1.f_p.Chans, v6.1.f_p.Procs, v6.1.f_chans, v6.1.f_procs, v4.2.1, v7)))
 else (some (.inr (.inr ((z02.mk x1.2.1.f_s (z10.mk x1.2.2.1 x1.2.2.2.1) x1.2.2.2.2.1 x1.2.2.2.2.2.1 x1.2.1.f_proc x1.2.1.f_vars x1.2.1.f_e), x1.2.2.1, x1.2.2.2.1, x1.2.2.2.2.1, x1.2.2.2.2.2.1, x1.2.2.2.2.2.2.2))))

def z6r (r : (z02 × z09)) : List XV := [.agg (bs (z7d r.2))]

def z6s (r : (z02 × z09)) : z0r := [oB 85 [.pv (.sl (List.map z0e r.1.f_s.Chans)), .pv (.sl (List.map z0i r.1.f_s.Rules)), .pv (.sl (List.map z0g r.1.f_s.Procs)), .row 1, .row 2, .row 3, .row 4, .pv (.int .i64 r.1.f_proc), .pv (.sl (List.map z0a r.1.f_vars)), .pv (.int .i64 r.1.f_e)], oR false 46 6 (List.map z04 r.1.f_p.Chans), oR false 51 2 (List.map z0b r.1.f_p.Procs), oR false 9 1 (List.map z0a r.1.f_chans), oR false 9 1 (List.map z0a r.1.f_procs)]

noncomputable def zkd (r : (z02 × z09)) : Tg := .r false Tryz.f97.results.toList 5 (z6r r) (z6s r)

mutual
noncomputable def z2f : Nat → z02 → (List z06) → Option (z02 × (List z09))
  | 0, _, _ => none
  | n + 1, a0, a1 => iter (z8y (z2f n) (z3u n) (z4m n) a1) (0, a0, a0.f_p.Chans, a0.f_p.Procs, a0.f_chans, a0.f_procs, []) >>= Sum.elim (fun _ => none) (fun j1 =>
 some ((z02.mk j1.1.f_s (z10.mk j1.2.1 j1.2.2.1) j1.2.2.2.1 j1.2.2.2.2.1 j1.1.f_proc j1.1.f_vars j1.1.f_e), j1.2.2.2.2.2))
noncomputable def z3u : Nat → z02 → z06 → Option (z02 × z09)
  | 0, _, _ => none
  | n + 1, a0, a1 => if (a1.Kind == 1) then (z4j a0 a0.f_vars a1.Name >>= fun v1 =>
 z7p v1.1 a1.E >>= fun v2 =>
 some (v2.1, (z09.mk a1.Kind v1.2 0 0 v2.2 (z4y.mk 0 (z0h.mk 0 0 0 []) (z0h.mk 0 0 0 [])) [] [] [])))
 else (if (a1.Kind == 7) then (z4j a0 a0.f_vars a1.Name >>= fun v3 =>
 some (v3.1, (z09.mk a1.Kind v3.2 0 0 (z0h.mk 0 0 0 []) (z4y.mk 0 (z0h.mk 0 0 0 []) (z0h.mk 0 0 0 [])) [] [] [])))
 else (if (a1.Kind == 6) then (z9j a0 a1.C >>= fun v4 =>
 some (v4.1, (z09.mk a1.Kind 0 0 0 (z0h.mk 0 0 0 []) v4.2 [] [] [])))
 else (if (a1.Kind == 3) then (z9j a0 a1.C >>= fun v5 =>
 (z2f n) v5.1 a1.Body >>= fun v6 =>
 some (v6.1, (z09.mk a1.Kind 0 0 0 (z0h.mk 0 0 0 []) v5.2 v6.2 [] [])))
 else (if (a1.Kind == 2) then (z9j a0 a1.C >>= fun v7 =>
 (z2f n) v7.1 a1.Body >>= fun v8 =>
 (z2f n) v8.1 a1.Else >>= fun v9 =>
 some (v9.1, (z09.mk a1.Kind 0 0 0 (z0h.mk 0 0 0 []) v7.2 v8.2 v9.2 [])))
 else (if (a1.Kind == 4) then (z9k a0 a1 >>= fun v10 =>
 some (v10.1, v10.2))
 else (if (a1.Kind == 5) then ((z4m n) a0 a1 >>= fun v11 =>
 some (v11.1, v11.2))
 else (some (a0, (z09.mk a1.Kind 0 0 0 (z0h.mk 0 0 0 []) (z4y.mk 0 (z0h.mk 0 0 0 []) (z0h.mk 0 0 0 [])) [] [] [])))))))))
noncomputable def z4m : Nat → z02 → z06 → Option (z02 × z09)
  | 0, _, _ => none
  | n + 1, a0, a1 => z7v a0 a1.Name >>= fun v1 =>
 iter (zbq (z2f n) (z3u n) (z4m n) a1 v1) (0, v1.1, v1.1.f_p.Chans, v1.1.f_p.Procs, v1.1.f_chans, v1.1.f_procs, [], []) >>= Sum.elim (fun _ => none) (fun j1 =>
 some ((z02.mk j1.1.f_s (z10.mk j1.2.1 j1.2.2.1) j1.2.2.2.1 j1.2.2.2.2.1 j1.1.f_proc j1.1.f_vars j1.1.f_e), (z09.mk a1.Kind 0 v1.2.1 0 (z0h.mk 0 0 0 []) (z4y.mk 0 (z0h.mk 0 0 0 []) (z0h.mk 0 0 0 [])) [] [] j1.2.2.2.2.2)))
end

noncomputable def z81 (a0 : z02) (a1 : (List z06)) : Option (z02 × (List z09)) := unf fun n => z2f n a0 a1

noncomputable def z7q (a0 : z02) (a1 : Int) (a2 : z59) : Option z02 :=
 z1w a0 (decide ((a2.Vars.length : Int) ≤ 6)) 10 >>= fun v1 =>
 z60 v1 a2.Vars >>= fun v2 =>
 z81 (z02.mk v2.f_s v2.f_p v2.f_chans v2.f_procs a1 a2.Vars v2.f_e) a2.Body >>= fun v3 =>
 app 32 v3.1.f_p.Procs [(z0w.mk (a2.Vars.length : Int) v3.2)] >>= fun v4 =>
 some (z02.mk v3.1.f_s (z10.mk v3.1.f_p.Chans v4) v3.1.f_chans v3.1.f_procs v3.1.f_proc v3.1.f_vars v3.1.f_e)

def zfn (r : z02) : List XV := []

def zfo (r : z02) : z0r := [oB 85 [.pv (.sl (List.map z0e r.f_s.Chans)), .pv (.sl (List.map z0i r.f_s.Rules)), .pv (.sl (List.map z0g r.f_s.Procs)), .row 1, .row 2, .row 3, .row 4, .pv (.int .i64 r.f_proc), .pv (.sl (List.map z0a r.f_vars)), .pv (.int .i64 r.f_e)], oR false 46 6 (List.map z04 r.f_p.Chans), oR true 51 2 (List.map z0b r.f_p.Procs), oR false 9 1 (List.map z0a r.f_chans), oR false 9 1 (List.map z0a r.f_procs)]

noncomputable def zfy (a0 : z2l) (v3 : z02) (x1 : Int) : Option (Sum Int (Sum (z10 × Int) Unit)) :=
 if (decide (x1 < (a0.Rules.length : Int))) then (idx a0.Rules x1 >>= fun v4 =>
 if (v3.f_e == 0) then (none)
 else (some (.inl (IntKind.i64.wrap (x1 + 1)))))
 else (some (.inr (.inr ())))

noncomputable def z9n (a0 : z2l) (x2 : (Int × z02 × (List z0m) × (List z0w) × (List ByteArray) × (List ByteArray))) : Option (Sum (Int × z02 × (List z0m) × (List z0w) × (List ByteArray) × (List ByteArray)) (Sum (z10 × Int) (z02 × (List z0m) × (List z0w) × (List ByteArray) × (List ByteArray)))) :=
 if (decide (x2.1 < (a0.Procs.length : Int))) then (((idx a0.Procs x2.1 >>= fun v5 =>
 if (x2.2.1.f_e == 0) then (z7q (z02.mk x2.2.1.f_s (z10.mk x2.2.2.1 x2.2.2.2.1) x2.2.2.2.2.1 x2.2.2.2.2.2 x2.2.1.f_proc x2.2.1.f_vars x2.2.1.f_e) x2.1 v5 >>= fun v6 =>
 some (v6, v6.f_p.Chans, v6.f_p.Procs, v6.f_chans, v6.f_procs))
 else (some ((z02.mk x2.2.1.f_s (z10.mk x2.2.2.1 x2.2.2.2.1) x2.2.2.2.2.1 x2.2.2.2.2.2 x2.2.1.f_proc x2.2.1.f_vars x2.2.1.f_e), x2.2.2.1, x2.2.2.2.1, x2.2.2.2.2.1, x2.2.2.2.2.2)) : Option (z02 × (List z0m) × (List z0w) × (List ByteArray) × (List ByteArray))) >>= fun j3 =>
 some (.inl ((IntKind.i64.wrap (x2.1 + 1)), (z02.mk j3.1.f_s (z10.mk j3.2.1 j3.2.2.1) j3.2.2.2.1 j3.2.2.2.2 j3.1.f_proc j3.1.f_vars j3.1.f_e), j3.2.1, j3.2.2.1, j3.2.2.2.1, j3.2.2.2.2))))
 else (some (.inr (.inr ((z02.mk x2.2.1.f_s (z10.mk x2.2.2.1 x2.2.2.2.1) x2.2.2.2.2.1 x2.2.2.2.2.2 x2.2.1.f_proc x2.2.1.f_vars x2.2.1.f_e), x2.2.2.1, x2.2.2.2.1, x2.2.2.2.2.1, x2.2.2.2.2.2))))

noncomputable def zev (a0 : z2l) : Option (z10 × Int) :=
 zcc a0 >>= fun v1 =>
 if (!v1) then (some ((z10.mk [] []), 5))
 else (z87 (z02.mk a0 (z10.mk [] []) [] [] 0 [] 0) >>= fun v2 =>
 z9i v2 >>= fun v3 =>
 iter (zfy a0 v3) 0 >>= Sum.elim (fun _ => none) (fun j1 =>
 iter (z9n a0) (0, v3, v3.f_p.Chans, v3.f_p.Procs, v3.f_chans, v3.f_procs) >>= Sum.elim (fun _ => none) (fun j2 =>
 if (j2.1.f_e != 0) then (some ((z10.mk [] []), j2.1.f_e))
 else (some ((z10.mk j2.2.1 j2.2.2.1), 0)))))

def ze9 (r : (z10 × Int)) : List XV := [.agg (bs (z8m r.1)), xI r.2]

def zke (r : (z10 × Int)) : z0r := []

noncomputable def zkf (r : (z10 × Int)) : Tg := .r false Tryz.f9.results.toList 0 (ze9 r) (zke r)

noncomputable def z3l (a0 : Int) (a1 : Int) (a2 : Int) : Option Bool :=
 if (decide (a0 ≥ a1)) then (some (decide (a0 ≤ a2)))
 else (some false)

def z18 (r : Bool) : List XV := [xB r]

def znx (r : Bool) : z0r := []

noncomputable def z9o (a0 : z0m) (v1 : (List Int)) (x1 : (Int × Int)) (x2 : (Int × Int)) : Option (Sum (Int × Int) (Sum Bool Int)) :=
 if (decide (x2.2 < (v1.length : Int))) then (((idx v1 x2.2 >>= fun v2 =>
 z3l v2 (-1) (IntKind.i64.wrap ((a0.Rule.length : Int) - 1)) >>= fun v3 =>
 if (!v3) then (some (.inl false))
 else (if (v2 != (-1)) then (some (.inr (max (max x2.1 x1.2) v2)))
 else (some (.inr x2.1))) : Option (Sum Bool Int)) >>= Sum.elim (fun r => some (.inr (.inl r))) (fun j3 =>
 some (.inl (j3, (IntKind.i64.wrap (x2.2 + 1)))))))
 else (some (.inr (.inr x2.1)))

noncomputable def z9p (a0 : z0m) (x1 : (Int × Int)) : Option (Sum (Int × Int) (Sum Bool Int)) :=
 if (decide (x1.2 < (a0.Rule.length : Int))) then (idx a0.Rule x1.2 >>= fun v1 =>
 if ((v1.length : Int) != a0.Tags) then (some (.inr (.inl false)))
 else (iter (z9o a0 v1 x1) (x1.1, 0) >>= Sum.elim (fun r => some (.inr (.inl r))) (fun j2 =>
 some (.inl (j2, (IntKind.i64.wrap (x1.2 + 1)))))))
 else (some (.inr (.inr x1.1)))

noncomputable def zew (a0 : z0m) : Option Bool :=
 iter (z9p a0) (0, 0) >>= Sum.elim (fun r => some r) (fun j1 =>
 if ((a0.Rule.length : Int) == 0) then (some true)
 else (if (j1 == (IntKind.i64.wrap ((a0.Rule.length : Int) - 1))) then (some (decide ((a0.Rule.length : Int) ≤ 8)))
 else (some false)))

def zea (r : Bool) : List XV := [xB r]

def zkg (r : Bool) : z0r := []

noncomputable def zgn (r : Bool) : Tg := .r false Tryz.f26.results.toList 0 (zea r) (zkg r)

noncomputable def zcg (a0 : z0m) (a1 : Int) : Option Bool :=
 ((z3l a0.Kind 0 2 >>= fun v1 =>
 if v1 then (z3l a0.Size 1 16 >>= fun v2 =>
 if v2 then (z3l a0.Tags 1 4 >>= fun v3 =>
 some v3)
 else (some false))
 else (some false) : Option Bool) >>= fun j1 =>
 ((if j1 then (z3l a0.From 0 (IntKind.i64.wrap (a1 - 1)) >>= fun v4 =>
 if v4 then (z3l a0.To 0 (IntKind.i64.wrap (a1 - 1)) >>= fun v5 =>
 if v5 then (if (a0.From != a0.To) then (zew a0 >>= fun v6 =>
 some v6)
 else (some false))
 else (some false))
 else (some false))
 else (some false) : Option Bool) >>= fun j2 =>
 some j2))

def zex (r : Bool) : List XV := [xB r]

def zne (r : Bool) : z0r := []

noncomputable def zcw (a0 : z0h) : Option Bool :=
 if (a0.Kind == 0) then (if (a0.Num == 0) then (if (a0.Var == 0) then (some ((a0.Kids.length : Int) == 0))
 else (some false))
 else (some false))
 else (some false)

def zbw (r : Bool) : List XV := [xB r]

def zqm (r : Bool) : z0r := []

noncomputable def zdl (a0 : z4y) : Option Bool :=
 if (a0.Op == 0) then (zcw a0.L >>= fun v1 =>
 if v1 then (zcw a0.R >>= fun v2 =>
 some v2)
 else (some false))
 else (some false)

def zfz (r : Bool) : List XV := [xB r]

def zny (r : Bool) : z0r := []

noncomputable def zga (a0 : Int) : Option Int :=
 ((if (a0 == 1) then (some true)
 else (some (a0 == 2)) : Option Bool) >>= fun j1 =>
 if j1 then (some 0)
 else (if (a0 == 3) then (some 1)
 else (z3l a0 4 8 >>= fun v1 =>
 if v1 then (some 2)
 else (some (-1)))))

def zhj (r : Int) : List XV := [xI r]

def zqn (r : Int) : z0r := []

noncomputable def zap (F_check_expr : z0h → Int → Option Bool) (a0 : z0h) (a1 : Int) (x2 : Int) : Option (Sum Int (Sum Bool Unit)) :=
 if (decide (x2 < (a0.Kids.length : Int))) then (idx a0.Kids x2 >>= fun v6 =>
 F_check_expr v6 a1 >>= fun v7 =>
 if (!v7) then (some (.inr (.inl false)))
 else (some (.inl (IntKind.i64.wrap (x2 + 1)))))
 else (some (.inr (.inr ())))

def z6z (r : Bool) : List XV := [xB r]

def zm1 (r : Bool) : z0r := []

noncomputable def zqo (r : Bool) : Tg := .r false Tryz.f47.results.toList 0 (z6z r) (zm1 r)

noncomputable def z88 : Nat → z0h → Int → Option Bool
  | 0, _, _ => none
  | n + 1, a0, a1 => zga a0.Kind >>= fun v1 =>
 if ((a0.Kids.length : Int) != v1) then (some false)
 else (((if (a0.Kind != 1) then (if (a0.Num != 0) then (some true)
 else (if (a0.Kind != 2) then (if (a0.Var != 0) then (some true)
 else (if (a0.Kind == 2) then (z3l a0.Var 0 (IntKind.i64.wrap (a1 - 1)) >>= fun v2 =>
 some (!v2))
 else (some false)))
 else (if (a0.Kind == 2) then (z3l a0.Var 0 (IntKind.i64.wrap (a1 - 1)) >>= fun v3 =>
 some (!v3))
 else (some false))))
 else (if (a0.Kind != 2) then (if (a0.Var != 0) then (some true)
 else (if (a0.Kind == 2) then (z3l a0.Var 0 (IntKind.i64.wrap (a1 - 1)) >>= fun v4 =>
 some (!v4))
 else (some false)))
 else (if (a0.Kind == 2) then (z3l a0.Var 0 (IntKind.i64.wrap (a1 - 1)) >>= fun v5 =>
 some (!v5))
 else (some false))) : Option Bool) >>= fun j1 =>
 if j1 then (some false)
 else (iter (zap (z88 n) a0 a1) 0 >>= Sum.elim (fun r => some r) (fun j2 =>
 z3l a0.Num 0 2147483647 >>= fun v8 =>
 some v8))))

noncomputable def zei (a0 : z0h) (a1 : Int) : Option Bool := unf fun n => z88 n a0 a1

noncomputable def zcx (a0 : z4y) (a1 : Int) : Option Bool :=
 z3l a0.Op 1 6 >>= fun v1 =>
 if v1 then (zei a0.L a1 >>= fun v2 =>
 if v2 then (zei a0.R a1 >>= fun v3 =>
 some v3)
 else (some false))
 else (some false)

def z99 (r : Bool) : List XV := [xB r]

def zqp (r : Bool) : z0r := []

noncomputable def z5t (a0 : z1q) (a1 : Int) : Option Bool :=
 z3l a1 0 (IntKind.i64.wrap ((a0.f_p.Chans.length : Int) - 1)) >>= fun v1 =>
 if v1 then (idx a0.f_p.Chans a1 >>= fun v2 =>
 zeh v2 >>= fun v3 =>
 some (v3 == a0.f_proc))
 else (some false)

def z5c (r : Bool) : List XV := [xB r]

def zdw (r : Bool) : z0r := []

noncomputable def z8i (a0 : z1q) (a1 : Int) (a2 : Int) : Option Bool :=
 idx a0.f_p.Chans a1 >>= fun v1 =>
 z3l a2 0 (IntKind.i64.wrap (v1.Tags - 1)) >>= fun v2 =>
 some v2

def z62 (r : Bool) : List XV := [xB r]

def zkh (r : Bool) : z0r := []

noncomputable def z64 (a0 : z1q) (a1 : Int) : Option Bool :=
 z3l a1 0 (IntKind.i64.wrap ((a0.f_p.Chans.length : Int) - 1)) >>= fun v1 =>
 if v1 then (idx a0.f_p.Chans a1 >>= fun v2 =>
 zkc v2 >>= fun v3 =>
 some (v3 == a0.f_proc))
 else (some false)

def z6t (r : Bool) : List XV := [xB r]

def zey (r : Bool) : z0r := []

noncomputable def z6i (F_check_looker_stmts : z1q → (List z09) → Option Bool) (F_check_looker_stmt : z1q → z09 → Option Bool) (F_check_looker_arms : z1q → Int → (List z2i) → Option Bool) (a0 : z1q) (a1 : (List z09)) (x1 : Int) : Option (Sum Int (Sum Bool Unit)) :=
 if (decide (x1 < (a1.length : Int))) then (idx a1 x1 >>= fun v1 =>
 F_check_looker_stmt a0 v1 >>= fun v2 =>
 if (!v2) then (some (.inr (.inl false)))
 else (some (.inl (IntKind.i64.wrap (x1 + 1)))))
 else (some (.inr (.inr ())))

def z2z (r : Bool) : List XV := [xB r]

def ze0 (r : Bool) : z0r := []

noncomputable def zij (r : Bool) : Tg := .r false Tryz.f12.results.toList 0 (z2z r) (ze0 r)

def z69 (r : Bool) : List XV := [xB r]

def zje (r : Bool) : z0r := []

noncomputable def z6x (F_check_looker_stmts : z1q → (List z09) → Option Bool) (F_check_looker_stmt : z1q → z09 → Option Bool) (F_check_looker_arms : z1q → Int → (List z2i) → Option Bool) (a0 : z1q) (a1 : Int) (a2 : (List z2i)) (x1 : (Int × Bool × Bool × Bool × Bool)) : Option (Sum (Int × Bool × Bool × Bool × Bool) (Sum Bool Unit)) :=
 if (decide (x1.1 < (a2.length : Int))) then (idx a2 x1.1 >>= fun v1 =>
 ((z8i a0 a1 v1.Tag >>= fun v2 =>
 if (!v2) then (some true)
 else (inA 4 v1.Tag >>= fun v3 =>
 if ((arr false [x1.2.1, x1.2.2.1, x1.2.2.2.1, x1.2.2.2.2]) v3) then (some true)
 else (z3l v1.Var 0 (IntKind.i64.wrap (a0.f_vars - 1)) >>= fun v4 =>
 if (!v4) then (some true)
 else (F_check_looker_stmts a0 v1.Body >>= fun v5 =>
 some (!v5)))) : Option Bool) >>= fun j2 =>
 if j2 then (some (.inr (.inl false)))
 else (inA 4 v1.Tag >>= fun v6 =>
 some (upd (arr false [x1.2.1, x1.2.2.1, x1.2.2.2.1, x1.2.2.2.2]) v6 true) >>= fun v7 =>
 some (.inl ((IntKind.i64.wrap (x1.1 + 1)), (v7 0), (v7 1), (v7 2), (v7 3))))))
 else (some (.inr (.inr ())))

def z5u (r : Bool) : List XV := [xB r]

def zez (r : Bool) : z0r := []

noncomputable def zjf (r : Bool) : Tg := .r false Tryz.f53.results.toList 0 (z5u r) (zez r)

mutual
noncomputable def z1p : Nat → z1q → (List z09) → Option Bool
  | 0, _, _ => none
  | n + 1, a0, a1 => iter (z6i (z1p n) (z39 n) (z3a n) a0 a1) 0 >>= Sum.elim (fun r => some r) (fun j1 =>
 some true)
noncomputable def z39 : Nat → z1q → z09 → Option Bool
  | 0, _, _ => none
  | n + 1, a0, a1 => zcw a1.E >>= fun v1 =>
 zdl a1.C >>= fun v2 =>
 ((if (a1.Chan == 0) then (some (a1.Tag == 0))
 else (some false) : Option Bool) >>= fun j1 =>
 if (a1.Kind == 1) then (((if v2 then (if ((a1.Body.length : Int) == 0) then (if ((a1.Else.length : Int) == 0) then (if ((a1.Arms.length : Int) == 0) then (if j1 then (z3l a1.Var 0 (IntKind.i64.wrap (a0.f_vars - 1)) >>= fun v3 =>
 if v3 then (zei a1.E a0.f_vars >>= fun v4 =>
 some v4)
 else (some false))
 else (some false))
 else (some false))
 else (some false))
 else (some false))
 else (some false) : Option Bool) >>= fun j2 =>
 some j2))
 else (if (a1.Kind == 7) then (((if v1 then (if v2 then (if ((a1.Body.length : Int) == 0) then (if ((a1.Else.length : Int) == 0) then (if ((a1.Arms.length : Int) == 0) then (if j1 then (z3l a1.Var 0 (IntKind.i64.wrap (a0.f_vars - 1)) >>= fun v5 =>
 some v5)
 else (some false))
 else (some false))
 else (some false))
 else (some false))
 else (some false))
 else (some false) : Option Bool) >>= fun j3 =>
 some j3))
 else (if (a1.Kind == 6) then (((if v1 then (if ((a1.Body.length : Int) == 0) then (if ((a1.Else.length : Int) == 0) then (if ((a1.Arms.length : Int) == 0) then (if j1 then (if (a1.Var == 0) then (zcx a1.C a0.f_vars >>= fun v6 =>
 some v6)
 else (some false))
 else (some false))
 else (some false))
 else (some false))
 else (some false))
 else (some false) : Option Bool) >>= fun j4 =>
 some j4))
 else (if (a1.Kind == 3) then (((if v1 then (if ((a1.Else.length : Int) == 0) then (if ((a1.Arms.length : Int) == 0) then (if j1 then (if (a1.Var == 0) then (zcx a1.C a0.f_vars >>= fun v7 =>
 if v7 then ((z1p n) a0 a1.Body >>= fun v8 =>
 some v8)
 else (some false))
 else (some false))
 else (some false))
 else (some false))
 else (some false))
 else (some false) : Option Bool) >>= fun j5 =>
 some j5))
 else (if (a1.Kind == 2) then (((if v1 then (if ((a1.Arms.length : Int) == 0) then (if j1 then (if (a1.Var == 0) then (zcx a1.C a0.f_vars >>= fun v9 =>
 if v9 then ((z1p n) a0 a1.Body >>= fun v10 =>
 if v10 then ((z1p n) a0 a1.Else >>= fun v11 =>
 some v11)
 else (some false))
 else (some false))
 else (some false))
 else (some false))
 else (some false))
 else (some false) : Option Bool) >>= fun j6 =>
 some j6))
 else (if (a1.Kind == 4) then (((if v2 then (if ((a1.Body.length : Int) == 0) then (if ((a1.Else.length : Int) == 0) then (if ((a1.Arms.length : Int) == 0) then (if (a1.Var == 0) then (z5t a0 a1.Chan >>= fun v12 =>
 if v12 then (z8i a0 a1.Chan a1.Tag >>= fun v13 =>
 if v13 then (zei a1.E a0.f_vars >>= fun v14 =>
 some v14)
 else (some false))
 else (some false))
 else (some false))
 else (some false))
 else (some false))
 else (some false))
 else (some false) : Option Bool) >>= fun j7 =>
 some j7))
 else (if (a1.Kind == 5) then (((if v1 then (if v2 then (if ((a1.Body.length : Int) == 0) then (if ((a1.Else.length : Int) == 0) then (if (a1.Var == 0) then (if (a1.Tag == 0) then (z64 a0 a1.Chan >>= fun v15 =>
 if v15 then ((z3a n) a0 a1.Chan a1.Arms >>= fun v16 =>
 some v16)
 else (some false))
 else (some false))
 else (some false))
 else (some false))
 else (some false))
 else (some false))
 else (some false) : Option Bool) >>= fun j8 =>
 some j8))
 else (some false))))))))
noncomputable def z3a : Nat → z1q → Int → (List z2i) → Option Bool
  | 0, _, _, _ => none
  | n + 1, a0, a1, a2 => iter (z6x (z1p n) (z39 n) (z3a n) a0 a1 a2) (0, false, false, false, false) >>= Sum.elim (fun r => some r) (fun j1 =>
 some (decide ((a2.length : Int) > 0)))
end

noncomputable def zch (a0 : z1q) (a1 : (List z09)) : Option Bool := unf fun n => z1p n a0 a1

noncomputable def z9q (a0 : z10) (x2 : Int) : Option (Sum Int (Sum Bool Unit)) :=
 if (decide (x2 < (a0.Chans.length : Int))) then (idx a0.Chans x2 >>= fun v2 =>
 zcg v2 (a0.Procs.length : Int) >>= fun v3 =>
 if (!v3) then (some (.inr (.inl false)))
 else (some (.inl (IntKind.i64.wrap (x2 + 1)))))
 else (some (.inr (.inr ())))

noncomputable def z9r (a0 : z10) (x3 : Int) : Option (Sum Int (Sum Bool Unit)) :=
 if (decide (x3 < (a0.Procs.length : Int))) then (idx a0.Procs x3 >>= fun v4 =>
 ((z3l v4.Vars 0 6 >>= fun v5 =>
 if (!v5) then (some true)
 else (zch (z1q.mk a0 x3 v4.Vars) v4.Body >>= fun v6 =>
 some (!v6)) : Option Bool) >>= fun j4 =>
 if j4 then (some (.inr (.inl false)))
 else (some (.inl (IntKind.i64.wrap (x3 + 1))))))
 else (some (.inr (.inr ())))

noncomputable def zbr (a0 : z10) : Option Bool :=
 ((if (decide ((a0.Chans.length : Int) > 4)) then (some true)
 else (z3l (a0.Procs.length : Int) 1 4 >>= fun v1 =>
 some (!v1)) : Option Bool) >>= fun j1 =>
 if j1 then (some false)
 else (iter (z9q a0) 0 >>= Sum.elim (fun r => some r) (fun j2 =>
 iter (z9r a0) 0 >>= Sum.elim (fun r => some r) (fun j3 =>
 some true))))

def z9e (r : Bool) : List XV := [xB r]

def zki (r : Bool) : z0r := []

noncomputable def zkj (r : Bool) : Tg := .r false Tryz.f5.results.toList 0 (z9e r) (zki r)

noncomputable def zgb : Option Bool :=
 za2 (ByteArray.mk #[99, 104, 97, 110, 32, 99, 32, 98, 108, 111, 99, 107, 32, 49, 32, 102, 114, 111, 109, 32, 112, 32, 116, 111, 32, 113, 32, 123, 32, 97, 32, 125, 32, 59, 32, 112, 114, 111, 99, 32, 112, 32, 123, 32, 115, 101, 110, 100, 32, 99, 32, 46, 32, 97, 32, 40, 32, 49, 32, 41, 32, 59, 32, 125, 32, 112, 114, 111, 99, 32, 113, 32, 123, 32, 125]) >>= fun v1 =>
 zev v1.1 >>= fun v2 =>
 ((if (v1.2.2 == 0) then (if (v2.2 == 0) then (if ((v2.1.Chans.length : Int) == 1) then (idx v2.1.Chans 0 >>= fun v3 =>
 if (v3.From == 0) then (idx v2.1.Chans 0 >>= fun v4 =>
 if (v4.To == 1) then (if ((v2.1.Procs.length : Int) == 2) then (zbr v2.1 >>= fun v5 =>
 if v5 then (zbr (z10.mk [] []) >>= fun v6 =>
 some (!v6))
 else (some false))
 else (some false))
 else (some false))
 else (some false))
 else (some false))
 else (some false))
 else (some false) : Option Bool) >>= fun j1 =>
 some j1)

def zfp (r : Bool) : List XV := [xB r]

def zqq (r : Bool) : z0r := []

noncomputable def zcy (F_l04_Expr : z34 → Option z0h) (a0 : z34) (x1 : (Int × (List z0h))) : Option (Sum (Int × (List z0h)) (Sum z0h (List z0h))) :=
 if (decide (x1.1 < (a0.Kids.length : Int))) then (idx a0.Kids x1.1 >>= fun v1 =>
 F_l04_Expr v1 >>= fun v2 =>
 app 48 x1.2 [v2] >>= fun v3 =>
 some (.inl ((IntKind.i64.wrap (x1.1 + 1)), v3)))
 else (some (.inr (.inr x1.2)))

def z9s (r : z0h) : List XV := [.agg (bs (z6e r))]

def zoi (r : z0h) : z0r := []

noncomputable def zvk (r : z0h) : Tg := .r false Tryz.f28.results.toList 0 (z9s r) (zoi r)

noncomputable def zb2 : Nat → z34 → Option z0h
  | 0, _ => none
  | n + 1, a0 => iter (zcy (zb2 n) a0) (0, []) >>= Sum.elim (fun _ => none) (fun j1 =>
 some (z0h.mk a0.Kind a0.Num a0.Var j1))

noncomputable def zkk (a0 : z34) : Option z0h := unf fun n => zb2 n a0

noncomputable def zbx (F_l04_stmts : (List z0v) → Option (List z09)) (v1 : z0v) (x2 : (Int × (List z2i))) : Option (Sum (Int × (List z2i)) (Sum (List z09) (List z2i))) :=
 if (decide (x2.1 < (v1.Arms.length : Int))) then (idx v1.Arms x2.1 >>= fun v7 =>
 F_l04_stmts v7.Body >>= fun v8 =>
 app 40 x2.2 [(z2i.mk v7.Tag v7.Var v8)] >>= fun v9 =>
 some (.inl ((IntKind.i64.wrap (x2.1 + 1)), v9)))
 else (some (.inr (.inr x2.2)))

noncomputable def zby (F_l04_stmts : (List z0v) → Option (List z09)) (a0 : (List z0v)) (x1 : (Int × (List z09))) : Option (Sum (Int × (List z09)) (Sum (List z09) (List z09))) :=
 if (decide (x1.1 < (a0.length : Int))) then (idx a0 x1.1 >>= fun v1 =>
 zkk v1.E >>= fun v2 =>
 zkk v1.C.L >>= fun v3 =>
 zkk v1.C.R >>= fun v4 =>
 F_l04_stmts v1.Body >>= fun v5 =>
 F_l04_stmts v1.Else >>= fun v6 =>
 iter (zbx F_l04_stmts v1) (0, []) >>= Sum.elim (fun _ => none) (fun j2 =>
 app 256 x1.2 [(z09.mk v1.Kind v1.Var v1.Chan v1.Tag v2 (z4y.mk v1.C.Op v3 v4) v5 v6 j2)] >>= fun v10 =>
 some (.inl ((IntKind.i64.wrap (x1.1 + 1)), v10))))
 else (some (.inr (.inr x1.2)))

def z8s (r : (List z09)) : List XV := [xL (List.map z1g r)]

def znf (r : (List z09)) : z0r := []

noncomputable def zng (r : (List z09)) : Tg := .r false Tryz.f13.results.toList 0 (z8s r) (znf r)

noncomputable def z8j : Nat → (List z0v) → Option (List z09)
  | 0, _ => none
  | n + 1, a0 => iter (zby (z8j n) a0) (0, []) >>= Sum.elim (fun _ => none) (fun j1 =>
 some j1)

noncomputable def znh (a0 : (List z0v)) : Option (List z09) := unf fun n => z8j n a0

noncomputable def zcz (v1 : z4k) (x2 : (Int × (List (List Int)))) : Option (Sum (Int × (List (List Int))) (Sum z10 (List (List Int)))) :=
 if (decide (x2.1 < (v1.Rule.length : Int))) then (idx v1.Rule x2.1 >>= fun v2 =>
 app 8 [] v2 >>= fun v3 =>
 app 24 x2.2 [v3] >>= fun v4 =>
 some (.inl ((IntKind.i64.wrap (x2.1 + 1)), v4)))
 else (some (.inr (.inr x2.2)))

noncomputable def zd0 (a0 : z2k) (x1 : (Int × (List z0m))) : Option (Sum (Int × (List z0m)) (Sum z10 (List z0m))) :=
 if (decide (x1.1 < (a0.Chans.length : Int))) then (idx a0.Chans x1.1 >>= fun v1 =>
 iter (zcz v1) (0, []) >>= Sum.elim (fun _ => none) (fun j2 =>
 app 64 x1.2 [(z0m.mk v1.Kind v1.Size v1.From v1.To v1.Tags j2)] >>= fun v5 =>
 some (.inl ((IntKind.i64.wrap (x1.1 + 1)), v5))))
 else (some (.inr (.inr x1.2)))

noncomputable def zd1 (a0 : z2k) (x3 : (Int × (List z0w))) : Option (Sum (Int × (List z0w)) (Sum z10 (List z0w))) :=
 if (decide (x3.1 < (a0.Procs.length : Int))) then (idx a0.Procs x3.1 >>= fun v6 =>
 znh v6.Body >>= fun v7 =>
 app 32 x3.2 [(z0w.mk v6.Vars v7)] >>= fun v8 =>
 some (.inl ((IntKind.i64.wrap (x3.1 + 1)), v8)))
 else (some (.inr (.inr x3.2)))

noncomputable def zkl (a0 : z2k) : Option z10 :=
 iter (zd0 a0) (0, []) >>= Sum.elim (fun _ => none) (fun j1 =>
 iter (zd1 a0) (0, []) >>= Sum.elim (fun _ => none) (fun j3 =>
 some (z10.mk j1 j3)))

def zi7 (r : z10) : List XV := [.agg (bs (z8m r))]

def zoj (r : z10) : z0r := []

noncomputable def zlm (r : z10) : Tg := .r false Tryz.f6.results.toList 0 (zi7 r) (zoj r)

def z6y (r : Bool) : List XV := [xB r]

def zvl (r : Bool) : z0r := []

noncomputable def zab : Nat → z34 → Int → Option Bool
  | 0, _, _ => none
  | n + 1, a0, a1 => if (a0.Kind == 1) then (((if (decide (a0.Num ≥ 0)) then (if (decide (a0.Num ≤ 2147483647)) then (if (a0.Var == 0) then (some ((a0.Kids.length : Int) == 0))
 else (some false))
 else (some false))
 else (some false) : Option Bool) >>= fun j1 =>
 some j1))
 else (if (a0.Kind == 2) then (((if (a0.Num == 0) then (if (decide (a0.Var ≥ 0)) then (if (decide (a0.Var < a1)) then (some ((a0.Kids.length : Int) == 0))
 else (some false))
 else (some false))
 else (some false) : Option Bool) >>= fun j2 =>
 some j2))
 else (if (a0.Kind == 3) then (((if (a0.Num == 0) then (if (a0.Var == 0) then (if ((a0.Kids.length : Int) == 1) then (idx a0.Kids 0 >>= fun v1 =>
 (zab n) v1 a1 >>= fun v2 =>
 some v2)
 else (some false))
 else (some false))
 else (some false) : Option Bool) >>= fun j3 =>
 some j3))
 else (((if (decide (a0.Kind ≥ 4)) then (some (decide (a0.Kind ≤ 8)))
 else (some false) : Option Bool) >>= fun j4 =>
 if j4 then (((if (a0.Num == 0) then (if (a0.Var == 0) then (if ((a0.Kids.length : Int) == 2) then (idx a0.Kids 0 >>= fun v3 =>
 (zab n) v3 a1 >>= fun v4 =>
 if v4 then (idx a0.Kids 1 >>= fun v5 =>
 (zab n) v5 a1 >>= fun v6 =>
 some v6)
 else (some false))
 else (some false))
 else (some false))
 else (some false) : Option Bool) >>= fun j5 =>
 some j5))
 else (some false)))))

noncomputable def zi8 (a0 : z34) (a1 : Int) : Option Bool := unf fun n => zab n a0 a1

noncomputable def zhk (a0 : z34) : Option Bool :=
 if (a0.Kind == 0) then (if (a0.Num == 0) then (if (a0.Var == 0) then (some ((a0.Kids.length : Int) == 0))
 else (some false))
 else (some false))
 else (some false)

def z7w (r : Bool) : List XV := [xB r]

def z003 (r : Bool) : z0r := []

noncomputable def zbz (a0 : z8d) : Option Bool :=
 if (a0.Op == 0) then (zhk a0.L >>= fun v1 =>
 if v1 then (zhk a0.R >>= fun v2 =>
 some v2)
 else (some false))
 else (some false)

def zc0 (r : Bool) : List XV := [xB r]

def zqr (r : Bool) : z0r := []

noncomputable def zgo (a0 : z8d) (a1 : Int) : Option Bool :=
 if (decide (a0.Op ≥ 1)) then (if (decide (a0.Op ≤ 6)) then (zi8 a0.L a1 >>= fun v1 =>
 if v1 then (zi8 a0.R a1 >>= fun v2 =>
 some v2)
 else (some false))
 else (some false))
 else (some false)

def zaq (r : Bool) : List XV := [xB r]

def zvm (r : Bool) : z0r := []

noncomputable def zc1 (F_r04_stmts : (List z0v) → z2k → Int → Option Bool) (F_r04_stmt : z0v → z2k → Int → Option Bool) (a0 : (List z0v)) (a1 : z2k) (a2 : Int) (x1 : Int) : Option (Sum Int (Sum Bool Unit)) :=
 if (decide (x1 < (a0.length : Int))) then (idx a0 x1 >>= fun v1 =>
 F_r04_stmt v1 a1 a2 >>= fun v2 =>
 if (!v2) then (some (.inr (.inl false)))
 else (some (.inl (IntKind.i64.wrap (x1 + 1)))))
 else (some (.inr (.inr ())))

def z6a (r : Bool) : List XV := [xB r]

def zni (r : Bool) : z0r := []

noncomputable def zs3 (r : Bool) : Tg := .r false Tryz.f14.results.toList 0 (z6a r) (zni r)

noncomputable def zd2 (F_r04_stmts : (List z0v) → z2k → Int → Option Bool) (F_r04_stmt : z0v → z2k → Int → Option Bool) (a0 : z0v) (a1 : z2k) (a2 : Int) (v1 : ze5) (x9 : (Int × Bool × Bool × Bool × Bool)) : Option (Sum (Int × Bool × Bool × Bool × Bool) (Sum Bool Unit)) :=
 if (decide (x9.1 < (a0.Arms.length : Int))) then (idx a0.Arms x9.1 >>= fun v18 =>
 ((if (decide (v18.Tag < 0)) then (some true)
 else (idx a1.Chans a0.Chan >>= fun v19 =>
 if (decide (v18.Tag ≥ v19.Tags)) then (some true)
 else (inA 4 v18.Tag >>= fun v20 =>
 if ((arr false [x9.2.1, x9.2.2.1, x9.2.2.2.1, x9.2.2.2.2]) v20) then (some true)
 else (if (decide (v18.Var < 0)) then (some true)
 else (if (decide (v18.Var ≥ v1.Vars)) then (some true)
 else (F_r04_stmts v18.Body a1 a2 >>= fun v21 =>
 some (!v21)))))) : Option Bool) >>= fun j10 =>
 if j10 then (some (.inr (.inl false)))
 else (inA 4 v18.Tag >>= fun v22 =>
 some (upd (arr false [x9.2.1, x9.2.2.1, x9.2.2.2.1, x9.2.2.2.2]) v22 true) >>= fun v23 =>
 some (.inl ((IntKind.i64.wrap (x9.1 + 1)), (v23 0), (v23 1), (v23 2), (v23 3))))))
 else (some (.inr (.inr ())))

def zd3 (r : Bool) : List XV := [xB r]

def zok (r : Bool) : z0r := []

noncomputable def zvn (r : Bool) : Tg := .r false Tryz.f29.results.toList 0 (zd3 r) (zok r)

mutual
noncomputable def z5e : Nat → (List z0v) → z2k → Int → Option Bool
  | 0, _, _, _ => none
  | n + 1, a0, a1, a2 => iter (zc1 (z5e n) (z8o n) a0 a1 a2) 0 >>= Sum.elim (fun r => some r) (fun j1 =>
 some true)
noncomputable def z8o : Nat → z0v → z2k → Int → Option Bool
  | 0, _, _, _ => none
  | n + 1, a0, a1, a2 => idx a1.Procs a2 >>= fun v1 =>
 ((if ((a0.Body.length : Int) == 0) then (if ((a0.Else.length : Int) == 0) then (some ((a0.Arms.length : Int) == 0))
 else (some false))
 else (some false) : Option Bool) >>= fun j1 =>
 ((if (decide (a0.Var ≥ 0)) then (some (decide (a0.Var < v1.Vars)))
 else (some false) : Option Bool) >>= fun j2 =>
 ((if (decide (a0.Chan ≥ 0)) then (some (decide (a0.Chan < (a1.Chans.length : Int))))
 else (some false) : Option Bool) >>= fun j3 =>
 if (a0.Kind == 1) then (((if j1 then (if j2 then (if (a0.Chan == 0) then (if (a0.Tag == 0) then (zi8 a0.E v1.Vars >>= fun v2 =>
 if v2 then (zbz a0.C >>= fun v3 =>
 some v3)
 else (some false))
 else (some false))
 else (some false))
 else (some false))
 else (some false) : Option Bool) >>= fun j4 =>
 some j4))
 else (if (a0.Kind == 2) then (((if ((a0.Arms.length : Int) == 0) then (if (a0.Var == 0) then (if (a0.Chan == 0) then (if (a0.Tag == 0) then (zhk a0.E >>= fun v4 =>
 if v4 then (zgo a0.C v1.Vars >>= fun v5 =>
 if v5 then ((z5e n) a0.Body a1 a2 >>= fun v6 =>
 if v6 then ((z5e n) a0.Else a1 a2 >>= fun v7 =>
 some v7)
 else (some false))
 else (some false))
 else (some false))
 else (some false))
 else (some false))
 else (some false))
 else (some false) : Option Bool) >>= fun j5 =>
 some j5))
 else (if (a0.Kind == 3) then (((if ((a0.Arms.length : Int) == 0) then (if ((a0.Else.length : Int) == 0) then (if (a0.Var == 0) then (if (a0.Chan == 0) then (if (a0.Tag == 0) then (zhk a0.E >>= fun v8 =>
 if v8 then (zgo a0.C v1.Vars >>= fun v9 =>
 if v9 then ((z5e n) a0.Body a1 a2 >>= fun v10 =>
 if v10 then ((z5e n) a0.Else a1 a2 >>= fun v11 =>
 some v11)
 else (some false))
 else (some false))
 else (some false))
 else (some false))
 else (some false))
 else (some false))
 else (some false))
 else (some false) : Option Bool) >>= fun j6 =>
 some j6))
 else (if (a0.Kind == 4) then (((if j1 then (if j3 then (if (a0.Var == 0) then (if (decide (a0.Tag ≥ 0)) then (idx a1.Chans a0.Chan >>= fun v12 =>
 if (decide (a0.Tag < v12.Tags)) then (if (v12.From == a2) then (zi8 a0.E v1.Vars >>= fun v13 =>
 if v13 then (zbz a0.C >>= fun v14 =>
 some v14)
 else (some false))
 else (some false))
 else (some false))
 else (some false))
 else (some false))
 else (some false))
 else (some false) : Option Bool) >>= fun j7 =>
 some j7))
 else (if (a0.Kind == 5) then (((if (!j3) then (some true)
 else (if (decide ((a0.Body.length : Int) > 0)) then (some true)
 else (if (decide ((a0.Else.length : Int) > 0)) then (some true)
 else (if ((a0.Arms.length : Int) == 0) then (some true)
 else (if (a0.Var != 0) then (some true)
 else (if (a0.Tag != 0) then (some true)
 else (idx a1.Chans a0.Chan >>= fun v15 =>
 if (v15.To != a2) then (some true)
 else (zhk a0.E >>= fun v16 =>
 if (!v16) then (some true)
 else (zbz a0.C >>= fun v17 =>
 some (!v17))))))))) : Option Bool) >>= fun j8 =>
 if j8 then (some false)
 else (iter (zd2 (z5e n) (z8o n) a0 a1 a2 v1) (0, false, false, false, false) >>= Sum.elim (fun r => some r) (fun j9 =>
 some true))))
 else (if (a0.Kind == 6) then (((if j1 then (if (a0.Var == 0) then (if (a0.Chan == 0) then (if (a0.Tag == 0) then (zhk a0.E >>= fun v24 =>
 if v24 then (zgo a0.C v1.Vars >>= fun v25 =>
 some v25)
 else (some false))
 else (some false))
 else (some false))
 else (some false))
 else (some false) : Option Bool) >>= fun j11 =>
 some j11))
 else (if (a0.Kind == 7) then (((if j1 then (if j2 then (if (a0.Chan == 0) then (if (a0.Tag == 0) then (zhk a0.E >>= fun v26 =>
 if v26 then (zbz a0.C >>= fun v27 =>
 some v27)
 else (some false))
 else (some false))
 else (some false))
 else (some false))
 else (some false) : Option Bool) >>= fun j12 =>
 some j12))
 else (some false))))))))))
end

noncomputable def znj (a0 : (List z0v)) (a1 : z2k) (a2 : Int) : Option Bool := unf fun n => z5e n a0 a1 a2

noncomputable def zc2 (v1 : z4k) (x4 : (Int × Int)) (x5 : (Int × Int)) : Option (Sum (Int × Int) (Sum Bool Int)) :=
 if (decide (x5.2 < v1.Tags)) then (((idx v1.Rule x4.2 >>= fun v3 =>
 idx v3 x5.2 >>= fun v4 =>
 ((if (decide (v4 < (-1))) then (some true)
 else (some (decide (v4 ≥ (v1.Rule.length : Int)))) : Option Bool) >>= fun j7 =>
 if j7 then (some (.inl false))
 else (if (decide (v4 ≥ 0)) then (some (.inr (max (max x5.1 x4.2) v4)))
 else (some (.inr x5.1)))) : Option (Sum Bool Int)) >>= Sum.elim (fun r => some (.inr (.inl r))) (fun j6 =>
 some (.inl (j6, (IntKind.i64.wrap (x5.2 + 1)))))))
 else (some (.inr (.inr x5.1)))

noncomputable def zac (v1 : z4k) (x4 : (Int × Int)) : Option (Sum (Int × Int) (Sum Bool Int)) :=
 if (decide (x4.2 < (v1.Rule.length : Int))) then (idx v1.Rule x4.2 >>= fun v2 =>
 if ((v2.length : Int) != v1.Tags) then (some (.inr (.inl false)))
 else (iter (zc2 v1 x4) (x4.1, 0) >>= Sum.elim (fun r => some (.inr (.inl r))) (fun j5 =>
 some (.inl (j5, (IntKind.i64.wrap (x4.2 + 1)))))))
 else (some (.inr (.inr x4.1)))

noncomputable def zc3 (a0 : z2k) (x2 : Int) : Option (Sum Int (Sum Bool Unit)) :=
 if (decide (x2 < (a0.Chans.length : Int))) then (idx a0.Chans x2 >>= fun v1 =>
 ((if (decide (v1.Kind < 0)) then (some true)
 else (if (decide (v1.Kind > 2)) then (some true)
 else (if (decide (v1.Size < 1)) then (some true)
 else (if (decide (v1.Size > 16)) then (some true)
 else (if (decide (v1.Tags < 1)) then (some true)
 else (if (decide (v1.Tags > 4)) then (some true)
 else (if (decide (v1.From < 0)) then (some true)
 else (if (decide (v1.From ≥ (a0.Procs.length : Int))) then (some true)
 else (if (decide (v1.To < 0)) then (some true)
 else (if (decide (v1.To ≥ (a0.Procs.length : Int))) then (some true)
 else (if (v1.From == v1.To) then (some true)
 else (some (decide ((v1.Rule.length : Int) > 8))))))))))))) : Option Bool) >>= fun j3 =>
 if j3 then (some (.inr (.inl false)))
 else (iter (zac v1) (0, 0) >>= Sum.elim (fun r => some (.inr (.inl r))) (fun j4 =>
 ((if (decide ((v1.Rule.length : Int) > 0)) then (some (j4 != (IntKind.i64.wrap ((v1.Rule.length : Int) - 1))))
 else (some false) : Option Bool) >>= fun j8 =>
 if j8 then (some (.inr (.inl false)))
 else (some (.inl (IntKind.i64.wrap (x2 + 1)))))))))
 else (some (.inr (.inr ())))

noncomputable def zc4 (a0 : z2k) (x9 : Int) : Option (Sum Int (Sum Bool Unit)) :=
 if (decide (x9 < (a0.Procs.length : Int))) then (((idx a0.Procs x9 >>= fun v5 =>
 if (decide (v5.Vars < 0)) then (some true)
 else (if (decide (v5.Vars > 6)) then (some true)
 else (znj v5.Body a0 x9 >>= fun v6 =>
 some (!v6))) : Option Bool) >>= fun j10 =>
 if j10 then (some (.inr (.inl false)))
 else (some (.inl (IntKind.i64.wrap (x9 + 1))))))
 else (some (.inr (.inr ())))

noncomputable def zhl (a0 : z2k) : Option Bool :=
 ((if (decide ((a0.Chans.length : Int) > 4)) then (some true)
 else (if (decide ((a0.Procs.length : Int) < 1)) then (some true)
 else (some (decide ((a0.Procs.length : Int) > 4)))) : Option Bool) >>= fun j1 =>
 if j1 then (some false)
 else (iter (zc3 a0) 0 >>= Sum.elim (fun r => some r) (fun j2 =>
 iter (zc4 a0) 0 >>= Sum.elim (fun r => some r) (fun j9 =>
 some true))))

def zgp (r : Bool) : List XV := [xB r]

def znk (r : Bool) : z0r := []

noncomputable def zf0 (r : Bool) : Tg := .r false Tryz.f7.results.toList 0 (zgp r) (znk r)

noncomputable def zdc (a0 : z2k) : Option Bool :=
 zgb >>= fun v1 =>
 if v1 then (zkl a0 >>= fun v2 =>
 zbr v2 >>= fun v3 =>
 zhl a0 >>= fun v4 =>
 some (v3 == v4))
 else (some false)

def zgx (r : Bool) : List XV := [xB r]

def zmc (r : Bool) : z0r := []

end Go.Proofs.YtgmbfjcidiedfaaGreatDoor.Abs
