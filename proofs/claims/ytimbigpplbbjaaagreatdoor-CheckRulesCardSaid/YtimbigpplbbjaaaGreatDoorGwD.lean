/- Gw: the functions, told by typed values. -/
import Derived.Test.YtimbigpplbbjaaaGreatDoorHandA
import Derived.Test.YtimbigpplbbjaaaGreatDoorEvH
import Derived.Test.YtimbigpplbbjaaaGreatDoorProg
namespace Go.Proofs.YtimbigpplbbjaaaGreatDoor.Abs
open Go Go.RowKit
set_option linter.unusedVariables false
structure zbi where
 Name:ByteArray
 Kind:Int
 Size:Int
 From:ByteArray
 To:ByteArray
 Tags:(List ByteArray)
structure z3y where
 From:Int
 Tag:ByteArray
 To:Int
structure zfa where
 Chan:ByteArray
 Moves:(List z3y)
structure z4n where
 Kind:Int
 Num:Int
 Name:ByteArray
 Kids:(List z4n)
structure zcg where
 Op:Int
 L:z4n
 R:z4n
mutual
inductive z8w where
 | mk (Tag:ByteArray) (Var:ByteArray) (Body:(List z1n))
inductive z1n where
 | mk (Kind:Int) (Name:ByteArray) (Tag:ByteArray) (E:z4n) (C:zcg) (Body:(List z1n)) (Else:(List z1n)) (Arms:(List z8w))
end
def z8w.Tag:z8w→ByteArray
 | .mk x _ _=>x
def z8w.Var:z8w→ByteArray
 | .mk _ x _=>x
def z8w.Body:z8w→(List z1n)
 | .mk _ _ x=>x
def z1n.Kind:z1n→Int
 | .mk x _ _ _ _ _ _ _=>x
def z1n.Name:z1n→ByteArray
 | .mk _ x _ _ _ _ _ _=>x
def z1n.Tag:z1n→ByteArray
 | .mk _ _ x _ _ _ _ _=>x
def z1n.E:z1n→z4n
 | .mk _ _ _ x _ _ _ _=>x
def z1n.C:z1n→zcg
 | .mk _ _ _ _ x _ _ _=>x
def z1n.Body:z1n→(List z1n)
 | .mk _ _ _ _ _ x _ _=>x
def z1n.Else:z1n→(List z1n)
 | .mk _ _ _ _ _ _ x _=>x
def z1n.Arms:z1n→(List z8w)
 | .mk _ _ _ _ _ _ _ x=>x
structure z8p where
 Name:ByteArray
 Vars:(List ByteArray)
 Body:(List z1n)
structure z0a where
 Kind:Int
 Size:Int
 From:Int
 To:Int
 Tags:Int
 Rule:(List (List Int))
structure z0v where
 Kind:Int
 Num:Int
 Var:Int
 Kids:(List z0v)
structure z5w where
 Op:Int
 L:z0v
 R:z0v
mutual
inductive z3z where
 | mk (Tag:Int) (Var:Int) (Body:(List z0h))
inductive z0h where
 | mk (Kind:Int) (Var:Int) (Chan:Int) (Tag:Int) (E:z0v) (C:z5w) (Body:(List z0h)) (Else:(List z0h)) (Arms:(List z3z))
end
def z3z.Tag:z3z→Int
 | .mk x _ _=>x
def z3z.Var:z3z→Int
 | .mk _ x _=>x
def z3z.Body:z3z→(List z0h)
 | .mk _ _ x=>x
def z0h.Kind:z0h→Int
 | .mk x _ _ _ _ _ _ _ _=>x
def z0h.Var:z0h→Int
 | .mk _ x _ _ _ _ _ _ _=>x
def z0h.Chan:z0h→Int
 | .mk _ _ x _ _ _ _ _ _=>x
def z0h.Tag:z0h→Int
 | .mk _ _ _ x _ _ _ _ _=>x
def z0h.E:z0h→z0v
 | .mk _ _ _ _ x _ _ _ _=>x
def z0h.C:z0h→z5w
 | .mk _ _ _ _ _ x _ _ _=>x
def z0h.Body:z0h→(List z0h)
 | .mk _ _ _ _ _ _ x _ _=>x
def z0h.Else:z0h→(List z0h)
 | .mk _ _ _ _ _ _ _ x _=>x
def z0h.Arms:z0h→(List z3z)
 | .mk _ _ _ _ _ _ _ _ x=>x
structure z6r where
 Vars:Int
 Body:(List z0h)
structure z29 where
 Name:ByteArray
 Kind:Int
 Size:Int
 From:ByteArray
 To:ByteArray
 Tags:(List ByteArray)
structure z5d where
 From:Int
 Tag:ByteArray
 To:Int
structure z3e where
 Chan:ByteArray
 Moves:(List z5d)
structure z06 where
 Kind:Int
 Num:Int
 Name:ByteArray
 Kids:(List z06)
structure z4j where
 Op:Int
 L:z06
 R:z06
mutual
inductive z1r where
 | mk (Tag:ByteArray) (Var:ByteArray) (Body:(List z05))
inductive z05 where
 | mk (Kind:Int) (Name:ByteArray) (Tag:ByteArray) (E:z06) (C:z4j) (Body:(List z05)) (Else:(List z05)) (Arms:(List z1r))
end
def z1r.Tag:z1r→ByteArray
 | .mk x _ _=>x
def z1r.Var:z1r→ByteArray
 | .mk _ x _=>x
def z1r.Body:z1r→(List z05)
 | .mk _ _ x=>x
def z05.Kind:z05→Int
 | .mk x _ _ _ _ _ _ _=>x
def z05.Name:z05→ByteArray
 | .mk _ x _ _ _ _ _ _=>x
def z05.Tag:z05→ByteArray
 | .mk _ _ x _ _ _ _ _=>x
def z05.E:z05→z06
 | .mk _ _ _ x _ _ _ _=>x
def z05.C:z05→z4j
 | .mk _ _ _ _ x _ _ _=>x
def z05.Body:z05→(List z05)
 | .mk _ _ _ _ _ x _ _=>x
def z05.Else:z05→(List z05)
 | .mk _ _ _ _ _ _ x _=>x
def z05.Arms:z05→(List z1r)
 | .mk _ _ _ _ _ _ _ x=>x
structure z3k where
 Name:ByteArray
 Vars:(List ByteArray)
 Body:(List z05)
structure z0n where
 Kind:Int
 Text:ByteArray
 Num:Int
 At:Int
def z09 (x:ByteArray):List PV:=[.str x]
def zc1 (x:zbi):List PV:=[.str x.Name,.int .i64 x.Kind,.int .i64 x.Size,.str x.From,.str x.To,.sl (List.map z09 x.Tags)]
mutual
def z62:z4n→List PV
 | .mk z_Kind z_Num z_Name z_Kids=>[.int .i64 z_Kind,.int .i64 z_Num,.str z_Name,.sl (zfb z_Kids)]
def zfb:List z4n→List (List PV)
 | []=>[]
 | x::xs=>z62 x::zfb xs
end
theorem zho:∀ l,zfb l=List.map z62 l
 | []=>rfl
 | x::xs=>by rw [zfb,zho xs];rfl
theorem zpt (x:z4n):z62 x=[.int .i64 x.Kind,.int .i64 x.Num,.str x.Name,.sl (List.map z62 x.Kids)]:=by
 cases x;rw [z62,zho]
mutual
def zej:z8w→List PV
 | .mk z_Tag z_Var z_Body=>[.str z_Tag,.str z_Var,.sl (zab z_Body)]
def zek:List z8w→List (List PV)
 | []=>[]
 | x::xs=>zej x::zek xs
def z5j:z1n→List PV
 | .mk z_Kind z_Name z_Tag z_E z_C z_Body z_Else z_Arms=>[.int .i64 z_Kind,.str z_Name,.str z_Tag,.int .i64 z_E.Kind,.int .i64 z_E.Num,.str z_E.Name,.sl (List.map z62 z_E.Kids),.int .i64 z_C.Op,.int .i64 z_C.L.Kind,.int .i64 z_C.L.Num,.str z_C.L.Name,.sl (List.map z62 z_C.L.Kids),.int .i64 z_C.R.Kind,.int .i64 z_C.R.Num,.str z_C.R.Name,.sl (List.map z62 z_C.R.Kids),.sl (zab z_Body),.sl (zab z_Else),.sl (zek z_Arms)]
def zab:List z1n→List (List PV)
 | []=>[]
 | x::xs=>z5j x::zab xs
end
theorem ziz:∀ l,zek l=List.map zej l
 | []=>by rw [zek];rfl
 | x::xs=>by rw [zek,ziz xs];rfl
theorem zel:∀ l,zab l=List.map z5j l
 | []=>by rw [zab];rfl
 | x::xs=>by rw [zab,zel xs];rfl
theorem zhp (x:z8w):zej x=[.str x.Tag,.str x.Var,.sl (List.map z5j x.Body)]:=by
 cases x;rw [zej];simp only [zel];first|done|rfl
theorem zpu (x:z1n):z5j x=[.int .i64 x.Kind,.str x.Name,.str x.Tag,.int .i64 x.E.Kind,.int .i64 x.E.Num,.str x.E.Name,.sl (List.map z62 x.E.Kids),.int .i64 x.C.Op,.int .i64 x.C.L.Kind,.int .i64 x.C.L.Num,.str x.C.L.Name,.sl (List.map z62 x.C.L.Kids),.int .i64 x.C.R.Kind,.int .i64 x.C.R.Num,.str x.C.R.Name,.sl (List.map z62 x.C.R.Kids),.sl (List.map z5j x.Body),.sl (List.map z5j x.Else),.sl (List.map zej x.Arms)]:=by
 cases x;rw [z5j];simp only [ziz,zel];first|done|rfl
def zc2 (x:z8p):List PV:=[.str x.Name,.sl (List.map z09 x.Vars),.sl (List.map z5j x.Body)]
def z45 (x:z3y):List PV:=[.int .i64 x.From,.str x.Tag,.int .i64 x.To]
def znn (x:(Nat→(Nat→Int))):List PV:=[.int .i64 ((x 0) 0),.int .i64 ((x 0) 1),.int .i64 ((x 1) 0),.int .i64 ((x 1) 1),.int .i64 ((x 2) 0),.int .i64 ((x 2) 1),.int .i64 ((x 3) 0),.int .i64 ((x 3) 1),.int .i64 ((x 4) 0),.int .i64 ((x 4) 1),.int .i64 ((x 5) 0),.int .i64 ((x 5) 1),.int .i64 ((x 6) 0),.int .i64 ((x 6) 1),.int .i64 ((x 7) 0),.int .i64 ((x 7) 1)]
structure z63 where
 Chans:(List zbi)
 Rules:(List zfa)
 Procs:(List z8p)
def zc3 (x:zfa):List PV:=[.str x.Chan,.sl (List.map z45 x.Moves)]
structure z17 where
 Chans:(List z29)
 Rules:(List z3e)
 Procs:(List z3k)
def z0c (x:z29):List PV:=[.str x.Name,.int .i64 x.Kind,.int .i64 x.Size,.str x.From,.str x.To,.sl (List.map z09 x.Tags)]
def z5x (x:z5d):List PV:=[.int .i64 x.From,.str x.Tag,.int .i64 x.To]
def z0e (x:z3e):List PV:=[.str x.Chan,.sl (List.map z5x x.Moves)]
def z8q (x:z63):List PV:=[.sl (List.map zc1 x.Chans),.sl (List.map zc3 x.Rules),.sl (List.map zc2 x.Procs)]
mutual
def z1o:z06→List PV
 | .mk z_Kind z_Num z_Name z_Kids=>[.int .i64 z_Kind,.int .i64 z_Num,.str z_Name,.sl (zfc z_Kids)]
def zfc:List z06→List (List PV)
 | []=>[]
 | x::xs=>z1o x::zfc xs
end
theorem zhq:∀ l,zfc l=List.map z1o l
 | []=>rfl
 | x::xs=>by rw [zfc,zhq xs];rfl
theorem z5e (x:z06):z1o x=[.int .i64 x.Kind,.int .i64 x.Num,.str x.Name,.sl (List.map z1o x.Kids)]:=by
 cases x;rw [z1o,zhq]
theorem zoc (x:z06):(z1o x).length=4:=by rw [z5e];rfl
def zg8 (x:z4j):List PV:=[.int .i64 x.Op,.int .i64 x.L.Kind,.int .i64 x.L.Num,.str x.L.Name,.sl (List.map z1o x.L.Kids),.int .i64 x.R.Kind,.int .i64 x.R.Num,.str x.R.Name,.sl (List.map z1o x.R.Kids)]
def zp2 (x:zcg):List PV:=[.int .i64 x.Op,.int .i64 x.L.Kind,.int .i64 x.L.Num,.str x.L.Name,.sl (List.map z62 x.L.Kids),.int .i64 x.R.Kind,.int .i64 x.R.Num,.str x.R.Name,.sl (List.map z62 x.R.Kids)]
mutual
def z3l:z1r→List PV
 | .mk z_Tag z_Var z_Body=>[.str z_Tag,.str z_Var,.sl (zac z_Body)]
def zem:List z1r→List (List PV)
 | []=>[]
 | x::xs=>z3l x::zem xs
def z1e:z05→List PV
 | .mk z_Kind z_Name z_Tag z_E z_C z_Body z_Else z_Arms=>[.int .i64 z_Kind,.str z_Name,.str z_Tag,.int .i64 z_E.Kind,.int .i64 z_E.Num,.str z_E.Name,.sl (List.map z1o z_E.Kids),.int .i64 z_C.Op,.int .i64 z_C.L.Kind,.int .i64 z_C.L.Num,.str z_C.L.Name,.sl (List.map z1o z_C.L.Kids),.int .i64 z_C.R.Kind,.int .i64 z_C.R.Num,.str z_C.R.Name,.sl (List.map z1o z_C.R.Kids),.sl (zac z_Body),.sl (zac z_Else),.sl (zem z_Arms)]
def zac:List z05→List (List PV)
 | []=>[]
 | x::xs=>z1e x::zac xs
end
theorem zj0:∀ l,zem l=List.map z3l l
 | []=>by rw [zem];rfl
 | x::xs=>by rw [zem,zj0 xs];rfl
theorem zen:∀ l,zac l=List.map z1e l
 | []=>by rw [zac];rfl
 | x::xs=>by rw [zac,zen xs];rfl
theorem zc4 (x:z1r):z3l x=[.str x.Tag,.str x.Var,.sl (List.map z1e x.Body)]:=by
 cases x;rw [z3l];simp only [zen];first|done|rfl
theorem zgu (x:z1r):(z3l x).length=3:=by rw [zc4];rfl
theorem zch (x:z05):z1e x=[.int .i64 x.Kind,.str x.Name,.str x.Tag,.int .i64 x.E.Kind,.int .i64 x.E.Num,.str x.E.Name,.sl (List.map z1o x.E.Kids),.int .i64 x.C.Op,.int .i64 x.C.L.Kind,.int .i64 x.C.L.Num,.str x.C.L.Name,.sl (List.map z1o x.C.L.Kids),.int .i64 x.C.R.Kind,.int .i64 x.C.R.Num,.str x.C.R.Name,.sl (List.map z1o x.C.R.Kids),.sl (List.map z1e x.Body),.sl (List.map z1e x.Else),.sl (List.map z3l x.Arms)]:=by
 cases x;rw [z1e];simp only [zj0,zen];first|done|rfl
theorem zj1 (x:z05):(z1e x).length=19:=by rw [zch];rfl
def z0d (x:z3k):List PV:=[.str x.Name,.sl (List.map z09 x.Vars),.sl (List.map z1e x.Body)]
def z5l (x:z17):List PV:=[.sl (List.map z0c x.Chans),.sl (List.map z0e x.Rules),.sl (List.map z0d x.Procs)]
structure z18 where
 Chans:(List z0a)
 Procs:(List z6r)
structure z02 where
 f_out:(List ByteArray)
 f_form:Bool
 f_deep:Bool
 f_blocks:Int
 f_parens:Int
def z1p (x:z0n):List PV:=[.int .i64 x.Kind,.str x.Text,.int .i64 x.Num,.int .i64 x.At]
structure z01 where
 f_s:z17
 f_p:z18
 f_chans:(List ByteArray)
 f_procs:(List ByteArray)
 f_proc:Int
 f_vars:(List ByteArray)
 f_e:Int
def z71 (x:Int):List PV:=[.int .i64 x]
def zcu (x:(List Int)):List PV:=[.sl (List.map z71 x)]
def z0m (x:z0a):List PV:=[.int .i64 x.Kind,.int .i64 x.Size,.int .i64 x.From,.int .i64 x.To,.int .i64 x.Tags,.sl (List.map zcu x.Rule)]
theorem z01m (x:Int):unL (z71 x)=z71 x:=by kernel_rfl
def z5f (x:(List Int)):List PV:=[.os true 3 1 (List.map z71 x)]
theorem zt1 (x:(List Int)):unL (z5f x)=zcu x :=
 (by kernel_rfl:unL (z5f x)=[.sl (unLL (List.map z71 x))]).trans (by simp only [unm z01m,zcu];try rfl)
def z04 (x:z0a):List PV:=[.int .i64 x.Kind,.int .i64 x.Size,.int .i64 x.From,.int .i64 x.To,.int .i64 x.Tags,.os false 40 1 (List.map z5f x.Rule)]
theorem zlq (x:z0a):unL (z04 x)=z0m x :=
 (by kernel_rfl:unL (z04 x)=[.int .i64 x.Kind,.int .i64 x.Size,.int .i64 x.From,.int .i64 x.To,.int .i64 x.Tags,.sl (unLL (List.map z5f x.Rule))]).trans (by simp only [unm zt1,z0m];try rfl)
mutual
def z1m:z0v→List PV
 | .mk z_Kind z_Num z_Var z_Kids=>[.int .i64 z_Kind,.int .i64 z_Num,.int .i64 z_Var,.sl (zdb z_Kids)]
def zdb:List z0v→List (List PV)
 | []=>[]
 | x::xs=>z1m x::zdb xs
end
theorem zg9:∀ l,zdb l=List.map z1m l
 | []=>rfl
 | x::xs=>by rw [zdb,zg9 xs];rfl
theorem zad (x:z0v):z1m x=[.int .i64 x.Kind,.int .i64 x.Num,.int .i64 x.Var,.sl (List.map z1m x.Kids)]:=by
 cases x;rw [z1m,zg9]
theorem zdv (x:z0v):(z1m x).length=4:=by rw [zad];rfl
mutual
def z3g:z3z→List PV
 | .mk z_Tag z_Var z_Body=>[.int .i64 z_Tag,.int .i64 z_Var,.sl (z8x z_Body)]
def zci:List z3z→List (List PV)
 | []=>[]
 | x::xs=>z3g x::zci xs
def z2l:z0h→List PV
 | .mk z_Kind z_Var z_Chan z_Tag z_E z_C z_Body z_Else z_Arms=>[.int .i64 z_Kind,.int .i64 z_Var,.int .i64 z_Chan,.int .i64 z_Tag,.int .i64 z_E.Kind,.int .i64 z_E.Num,.int .i64 z_E.Var,.sl (List.map z1m z_E.Kids),.int .i64 z_C.Op,.int .i64 z_C.L.Kind,.int .i64 z_C.L.Num,.int .i64 z_C.L.Var,.sl (List.map z1m z_C.L.Kids),.int .i64 z_C.R.Kind,.int .i64 z_C.R.Num,.int .i64 z_C.R.Var,.sl (List.map z1m z_C.R.Kids),.sl (z8x z_Body),.sl (z8x z_Else),.sl (zci z_Arms)]
def z8x:List z0h→List (List PV)
 | []=>[]
 | x::xs=>z2l x::z8x xs
end
theorem zh5:∀ l,zci l=List.map z3g l
 | []=>by rw [zci];rfl
 | x::xs=>by rw [zci,zh5 xs];rfl
theorem zcy:∀ l,z8x l=List.map z2l l
 | []=>by rw [z8x];rfl
 | x::xs=>by rw [z8x,zcy xs];rfl
theorem zfy (x:z3z):z3g x=[.int .i64 x.Tag,.int .i64 x.Var,.sl (List.map z2l x.Body)]:=by
 cases x;rw [z3g];simp only [zcy];first|done|rfl
theorem zno (x:z3z):(z3g x).length=3:=by rw [zfy];rfl
theorem zeo (x:z0h):z2l x=[.int .i64 x.Kind,.int .i64 x.Var,.int .i64 x.Chan,.int .i64 x.Tag,.int .i64 x.E.Kind,.int .i64 x.E.Num,.int .i64 x.E.Var,.sl (List.map z1m x.E.Kids),.int .i64 x.C.Op,.int .i64 x.C.L.Kind,.int .i64 x.C.L.Num,.int .i64 x.C.L.Var,.sl (List.map z1m x.C.L.Kids),.int .i64 x.C.R.Kind,.int .i64 x.C.R.Num,.int .i64 x.C.R.Var,.sl (List.map z1m x.C.R.Kids),.sl (List.map z2l x.Body),.sl (List.map z2l x.Else),.sl (List.map z3g x.Arms)]:=by
 cases x;rw [z2l];simp only [zh5,zcy];first|done|rfl
theorem zms (x:z0h):(z2l x).length=20:=by rw [zeo];rfl
def z0b (x:z6r):List PV:=[.int .i64 x.Vars,.sl (List.map z2l x.Body)]
def zdg (x:z5w):List PV:=[.int .i64 x.Op,.int .i64 x.L.Kind,.int .i64 x.L.Num,.int .i64 x.L.Var,.sl (List.map z1m x.L.Kids),.int .i64 x.R.Kind,.int .i64 x.R.Num,.int .i64 x.R.Var,.sl (List.map z1m x.R.Kids)]
def z7h (x:z18):List PV:=[.sl (List.map z0m x.Chans),.sl (List.map z0b x.Procs)]
structure z00 where
 f_l:(List z0n)
 f_end:Int
 f_e:Int
 f_at:Int
 f_deep:Int
 f_in:Int
def z03 (x:z00):List PV:=[.sl (List.map z1p x.f_l),.int .i64 x.f_end,.int .i64 x.f_e,.int .i64 x.f_at,.int .i64 x.f_deep,.int .i64 x.f_in]
structure z1q where
 f_p:z18
 f_proc:Int
 f_vars:Int
def z1v (x:z1q):List PV:=[.sl (List.map z0m x.f_p.Chans),.sl (List.map z0b x.f_p.Procs),.int .i64 x.f_proc,.int .i64 x.f_vars]
def zp3 (x:(Nat→Bool)):List PV:=[.bool (x 0),.bool (x 1),.bool (x 2),.bool (x 3)]
def zp4 (x:z1n):List PV:=[.int .i64 x.Kind,.str x.Name,.str x.Tag,.int .i64 x.E.Kind,.int .i64 x.E.Num,.str x.E.Name,.sl (List.map z62 x.E.Kids),.int .i64 x.C.Op,.int .i64 x.C.L.Kind,.int .i64 x.C.L.Num,.str x.C.L.Name,.sl (List.map z62 x.C.L.Kids),.int .i64 x.C.R.Kind,.int .i64 x.C.R.Num,.str x.C.R.Name,.sl (List.map z62 x.C.R.Kids),.sl (List.map z5j x.Body),.sl (List.map z5j x.Else),.sl (List.map zej x.Arms)]
def zc5 (x:z4n):List PV:=[.int .i64 x.Kind,.int .i64 x.Num,.str x.Name,.sl (List.map z62 x.Kids)]
def z0o (x:z06):List PV:=[.int .i64 x.Kind,.int .i64 x.Num,.str x.Name,.sl (List.map z1o x.Kids)]
def znp (x:z8w):List PV:=[.str x.Tag,.str x.Var,.sl (List.map z5j x.Body)]
def z47 (x:z05):List PV:=[.int .i64 x.Kind,.str x.Name,.str x.Tag,.int .i64 x.E.Kind,.int .i64 x.E.Num,.str x.E.Name,.sl (List.map z1o x.E.Kids),.int .i64 x.C.Op,.int .i64 x.C.L.Kind,.int .i64 x.C.L.Num,.str x.C.L.Name,.sl (List.map z1o x.C.L.Kids),.int .i64 x.C.R.Kind,.int .i64 x.C.R.Num,.str x.C.R.Name,.sl (List.map z1o x.C.R.Kids),.sl (List.map z1e x.Body),.sl (List.map z1e x.Else),.sl (List.map z3l x.Arms)]
def znq (x:z1r):List PV:=[.str x.Tag,.str x.Var,.sl (List.map z1e x.Body)]
def z6v (x:z0v):List PV:=[.int .i64 x.Kind,.int .i64 x.Num,.int .i64 x.Var,.sl (List.map z1m x.Kids)]
def z7i (x:z0h):List PV:=[.int .i64 x.Kind,.int .i64 x.Var,.int .i64 x.Chan,.int .i64 x.Tag,.int .i64 x.E.Kind,.int .i64 x.E.Num,.int .i64 x.E.Var,.sl (List.map z1m x.E.Kids),.int .i64 x.C.Op,.int .i64 x.C.L.Kind,.int .i64 x.C.L.Num,.int .i64 x.C.L.Var,.sl (List.map z1m x.C.L.Kids),.int .i64 x.C.R.Kind,.int .i64 x.C.R.Num,.int .i64 x.C.R.Var,.sl (List.map z1m x.C.R.Kids),.sl (List.map z2l x.Body),.sl (List.map z2l x.Else),.sl (List.map z3g x.Arms)]
def znr (x:z3z):List PV:=[.int .i64 x.Tag,.int .i64 x.Var,.sl (List.map z2l x.Body)]
noncomputable def zcz (F_l02_Expr:z4n→Option z06) (a0:z4n) (x1:(Int × (List z06))):Option (Sum (Int × (List z06)) (Sum z06 (List z06))) :=
 if (decide (x1.1<(a0.Kids.length:Int))) then (idx a0.Kids x1.1>>=fun v1 =>
 F_l02_Expr v1>>=fun v2 =>
 app 56 x1.2 [v2]>>=fun v3 =>
 some (.inl ((IntKind.i64.wrap (x1.1+1)),v3)))
 else (some (.inr (.inr x1.2)))
def za0 (r:z06):List XV:=[.agg (bs (z0o r))]
def zp5 (r:z06):z0q:=[]
noncomputable def zwn (r:z06):Tg:=.r false Tryz.f77.results.toList 0 (za0 r) (zp5 r)
noncomputable def zbc:Nat→z4n→Option z06
  | 0,_=>none
  | n+1,a0=>iter (zcz (zbc n) a0) (0,[])>>=Sum.elim (fun _=>none) (fun j1 =>
 some (z06.mk a0.Kind a0.Num a0.Name j1))
noncomputable def zkg (a0:z4n):Option z06:=unf fun n=>zbc n a0
noncomputable def zkh (a0:zcg):Option z4j :=
 zkg a0.L>>=fun v1 =>
 zkg a0.R>>=fun v2 =>
 some (z4j.mk a0.Op v1 v2)
def zlr (r:z4j):List XV:=[.agg (bs (zg8 r))]
def zwo (r:z4j):z0q:=[]
noncomputable def zc6 (F_l02_Stmts:(List z1n)→Option (List z05)) (v1:z1n) (x2:(Int × (List z1r))):Option (Sum (Int × (List z1r)) (Sum (List z05) (List z1r))) :=
 if (decide (x2.1<(v1.Arms.length:Int))) then (idx v1.Arms x2.1>>=fun v6 =>
 F_l02_Stmts v6.Body>>=fun v7 =>
 app 56 x2.2 [(z1r.mk v6.Tag v6.Var v7)]>>=fun v8 =>
 some (.inl ((IntKind.i64.wrap (x2.1+1)),v8)))
 else (some (.inr (.inr x2.2)))
noncomputable def zc7 (F_l02_Stmts:(List z1n)→Option (List z05)) (a0:(List z1n)) (x1:(Int × (List z05))):Option (Sum (Int × (List z05)) (Sum (List z05) (List z05))) :=
 if (decide (x1.1<(a0.length:Int))) then (idx a0 x1.1>>=fun v1 =>
 zkg v1.E>>=fun v2 =>
 zkh v1.C>>=fun v3 =>
 F_l02_Stmts v1.Body>>=fun v4 =>
 F_l02_Stmts v1.Else>>=fun v5 =>
 iter (zc6 F_l02_Stmts v1) (0,[])>>=Sum.elim (fun _=>none) (fun j2 =>
 app 288 x1.2 [(z05.mk v1.Kind v1.Name v1.Tag v2 v3 v4 v5 j2)]>>=fun v9 =>
 some (.inl ((IntKind.i64.wrap (x1.1+1)),v9))))
 else (some (.inr (.inr x1.2)))
def z8y (r:(List z05)):List XV:=[xL (List.map z1e r)]
def zns (r:(List z05)):z0q:=[]
noncomputable def znt (r:(List z05)):Tg:=.r false Tryz.f37.results.toList 0 (z8y r) (zns r)
noncomputable def z8j:Nat→(List z1n)→Option (List z05)
  | 0,_=>none
  | n+1,a0=>iter (zc7 (z8j n) a0) (0,[])>>=Sum.elim (fun _=>none) (fun j1 =>
 some j1)
noncomputable def znu (a0:(List z1n)):Option (List z05):=unf fun n=>z8j n a0
noncomputable def zar (a0:z63) (x1:(Int × (List z29))):Option (Sum (Int × (List z29)) (Sum z17 (List z29))) :=
 if (decide (x1.1<(a0.Chans.length:Int))) then (idx a0.Chans x1.1>>=fun v1 =>
 app 16 [] v1.Tags>>=fun v2 =>
 app 88 x1.2 [(z29.mk v1.Name v1.Kind v1.Size v1.From v1.To v2)]>>=fun v3 =>
 some (.inl ((IntKind.i64.wrap (x1.1+1)),v3)))
 else (some (.inr (.inr x1.2)))
noncomputable def zas (a0:z63) (x2:(Int × (List z3e))) (x3:(Int × (List z5d))):Option (Sum (Int × (List z5d)) (Sum z17 (List z5d))) :=
 idx a0.Rules x2.1>>=fun v5 =>
 if (decide (x3.1<(v5.Moves.length:Int))) then (idx a0.Rules x2.1>>=fun v6 =>
 idx v6.Moves x3.1>>=fun v7 =>
 app 32 x3.2 [(z5d.mk v7.From v7.Tag v7.To)]>>=fun v8 =>
 some (.inl ((IntKind.i64.wrap (x3.1+1)),v8)))
 else (some (.inr (.inr x3.2)))
noncomputable def zat (a0:z63) (x2:(Int × (List z3e))):Option (Sum (Int × (List z3e)) (Sum z17 (List z3e))) :=
 if (decide (x2.1<(a0.Rules.length:Int))) then (idx a0.Rules x2.1>>=fun v4 =>
 iter (zas a0 x2) (0,[])>>=Sum.elim (fun _=>none) (fun j3 =>
 app 40 x2.2 [(z3e.mk v4.Chan j3)]>>=fun v9 =>
 some (.inl ((IntKind.i64.wrap (x2.1+1)),v9))))
 else (some (.inr (.inr x2.2)))
noncomputable def zau (a0:z63) (x4:(Int × (List z3k))):Option (Sum (Int × (List z3k)) (Sum z17 (List z3k))) :=
 if (decide (x4.1<(a0.Procs.length:Int))) then (idx a0.Procs x4.1>>=fun v10 =>
 app 16 [] v10.Vars>>=fun v11 =>
 znu v10.Body>>=fun v12 =>
 app 64 x4.2 [(z3k.mk v10.Name v11 v12)]>>=fun v13 =>
 some (.inl ((IntKind.i64.wrap (x4.1+1)),v13)))
 else (some (.inr (.inr x4.2)))
noncomputable def zee (a0:z63):Option z17 :=
 iter (zar a0) (0,[])>>=Sum.elim (fun _=>none) (fun j1 =>
 iter (zat a0) (0,[])>>=Sum.elim (fun _=>none) (fun j2 =>
 iter (zau a0) (0,[])>>=Sum.elim (fun _=>none) (fun j4 =>
 some (z17.mk j1 j2 j4))))
def zfd (r:z17):List XV:=[.agg (bs (z5l r))]
def zmm (r:z17):z0q:=[]
noncomputable def zfe (r:z17):Tg:=.r false Tryz.f14.results.toList 0 (zfd r) (zmm r)
noncomputable def z0f (a0:z02) (a1:(List ByteArray)):Option z02 :=
 app 16 a0.f_out a1>>=fun v1 =>
 some (z02.mk v1 a0.f_form a0.f_deep a0.f_blocks a0.f_parens)
def z0j (r:z02):List XV:=[]
def z0k (r:z02):z0q:=[oB 246 [.row 1,.pv (.bool r.f_form),.pv (.bool r.f_deep),.pv (.int .i64 r.f_blocks),.pv (.int .i64 r.f_parens)],oR true 9 1 (List.map z09 r.f_out)]
noncomputable def zef (a0:Int):Option Bool :=
 if (decide (a0≥97)) then (some (decide (a0≤122)))
 else (some false)
def zdh (r:Bool):List XV:=[xB r]
def zr9 (r:Bool):z0q:=[]
noncomputable def zga (a0:Int):Option Bool :=
 if (decide (a0≥48)) then (some (decide (a0≤57)))
 else (some false)
def zgv (r:Bool):List XV:=[xB r]
def zt2 (r:Bool):z0q:=[]
noncomputable def zd0 (a0:ByteArray) (x1:Int):Option (Sum Int (Sum Int Int)) :=
 ((if (decide (x1<(a0.size:Int))) then (bidx a0 x1>>=fun v1 =>
 zef v1>>=fun v2 =>
 if v2 then (some true)
 else (bidx a0 x1>>=fun v3 =>
 zga v3>>=fun v4 =>
 some v4))
 else (some false):Option Bool)>>=fun j2 =>
 if j2 then (some (.inl (IntKind.i64.wrap (x1+1))))
 else (some (.inr (.inr x1))))
noncomputable def zls (a0:ByteArray):Option Int :=
 iter (zd0 a0) 0>>=Sum.elim (fun _=>none) (fun j1 =>
 some j1)
def zhr (r:Int):List XV:=[xI r]
def zra (r:Int):z0q:=[]
noncomputable def zz2 (r:Int):Tg:=.r false Tryz.f126.results.toList 0 (zhr r) (zra r)
noncomputable def zdi (a0:ByteArray):Option Bool :=
 if (a0.toList==(ByteArray.mk #[99,104,97,110]).toList) then (some true)
 else (if (a0.toList==(ByteArray.mk #[98,108,111,99,107]).toList) then (some true)
 else (if (a0.toList==(ByteArray.mk #[100,114,111,112]).toList) then (some true)
 else (if (a0.toList==(ByteArray.mk #[108,111,115,115,121]).toList) then (some true)
 else (if (a0.toList==(ByteArray.mk #[102,114,111,109]).toList) then (some true)
 else (if (a0.toList==(ByteArray.mk #[116,111]).toList) then (some true)
 else (if (a0.toList==(ByteArray.mk #[114,117,108,101]).toList) then (some true)
 else (if (a0.toList==(ByteArray.mk #[112,114,111,99]).toList) then (some true)
 else (if (a0.toList==(ByteArray.mk #[118,97,114]).toList) then (some true)
 else (if (a0.toList==(ByteArray.mk #[105,102]).toList) then (some true)
 else (if (a0.toList==(ByteArray.mk #[101,108,115,101]).toList) then (some true)
 else (if (a0.toList==(ByteArray.mk #[119,104,105,108,101]).toList) then (some true)
 else (if (a0.toList==(ByteArray.mk #[115,101,110,100]).toList) then (some true)
 else (if (a0.toList==(ByteArray.mk #[114,101,99,118]).toList) then (some true)
 else (if (a0.toList==(ByteArray.mk #[97,115,115,101,114,116]).toList) then (some true)
 else (if (a0.toList==(ByteArray.mk #[105,110,112,117,116]).toList) then (some true)
 else (some false))))))))))))))))
def zfz (r:Bool):List XV:=[xB r]
def zod (r:Bool):z0q:=[]
noncomputable def zgb (a0:ByteArray):Option (z0n × Int) :=
 if (decide ((a0.size:Int) > 12)) then (some ((z0n.mk 0 (ByteArray.mk #[]) 0 0),3))
 else (zdi a0>>=fun v1 =>
 if v1 then (some ((z0n.mk 4 a0 0 0),0))
 else (some ((z0n.mk 1 a0 0 0),0)))
def zjj (r:(z0n × Int)):List XV:=[.agg (bs (z1p r.1)),xI r.2]
def zt3 (r:(z0n × Int)):z0q:=[]
def zuw (r:(Int × Int)):List XV:=[xI r.1,xI r.2]
def zt4 (r:Int):List XV:=[xI r]
noncomputable def zki (a0:ByteArray):Option Int :=
 ((if (decide ((a0.size:Int) > 1)) then (bidx a0 1>>=fun v1 =>
 if (v1==61) then (bidx a0 0>>=fun v2 =>
 zt5 (ByteArray.mk #[61,33,60,62]) v2>>=fun v3 =>
 some (decide (v3≥0)))
 else (some false))
 else (some false):Option Bool)>>=fun j1 =>
 if j1 then (some 2)
 else (bidx a0 0>>=fun v4 =>
 zt5 (ByteArray.mk #[123,125,40,41,59,44,46,61,60,62,43,45,42,47,37]) v4>>=fun v5 =>
 if (decide (v5≥0)) then (some 1)
 else (some 0)))
def zlt (r:Int):List XV:=[xI r]
def zwp (r:Int):z0q:=[]
noncomputable def zgw (a0:ByteArray):Option (z0n × Int) :=
 bidx a0 0>>=fun v1 =>
 zef v1>>=fun v2 =>
 if v2 then (zls a0>>=fun v3 =>
 ssub a0 0 v3>>=fun v4 =>
 zgb v4>>=fun v5 =>
 some (v5.1,v5.2))
 else (bidx a0 0>>=fun v6 =>
 zga v6>>=fun v7 =>
 if v7 then (zls a0>>=fun v8 =>
 ssub a0 0 v8>>=fun v9 =>
 znv v9>>=fun v10 =>
 some ((z0n.mk 2 v9 v10.1 0),v10.2))
 else (zki a0>>=fun v11 =>
 if (v11==0) then (some ((z0n.mk 0 (ByteArray.mk #[]) 0 0),2))
 else (ssub a0 0 v11>>=fun v12 =>
 some ((z0n.mk 3 v12 0 0),0))))
def zlu (r:(z0n × Int)):List XV:=[.agg (bs (z1p r.1)),xI r.2]
def zwq (r:(z0n × Int)):z0q:=[]
noncomputable def zd1 (a0:ByteArray) (x1:(Int × (List z0n))):Option (Sum (Int × (List z0n)) (Sum ((List z0n) × Int × Int) (List z0n))) :=
 if (decide (x1.1<(a0.size:Int))) then (((bidx a0 x1.1>>=fun v1 =>
 if (v1==32) then (some true)
 else (bidx a0 x1.1>>=fun v2 =>
 some (v2==10)):Option Bool)>>=fun j2 =>
 if j2 then (some (.inl ((IntKind.i64.wrap (x1.1+1)),x1.2)))
 else (ssub a0 x1.1 (a0.size:Int)>>=fun v3 =>
 zgw v3>>=fun v4 =>
 if (v4.2 != 0) then (some (.inr (.inl ([],x1.1,v4.2))))
 else (app 40 x1.2 [(z0n.mk v4.1.Kind v4.1.Text v4.1.Num x1.1)]>>=fun v5 =>
 some (.inl ((IntKind.i64.wrap (x1.1+(v4.1.Text.size:Int))),v5))))))
 else (some (.inr (.inr x1.2)))
noncomputable def zhs (a0:ByteArray):Option ((List z0n) × Int × Int) :=
 iter (zd1 a0) (0,[])>>=Sum.elim (fun r=>some r) (fun j1 =>
 if (decide ((j1.length:Int) > 2000)) then (some ([],(a0.size:Int),4))
 else (some (j1,0,0)))
def zht (r:((List z0n) × Int × Int)):List XV:=[xL (List.map z1p r.1),xI r.2.1,xI r.2.2]
def zrb (r:((List z0n) × Int × Int)):z0q:=[]
noncomputable def zz3 (r:((List z0n) × Int × Int)):Tg:=.r false Tryz.f41.results.toList 0 (zht r) (zrb r)
noncomputable def z31 (a0:z02) (a1:Bool):Option z02 :=
 if a0.f_form then (some (z02.mk a0.f_out true a0.f_deep a0.f_blocks a0.f_parens))
 else (some (z02.mk a0.f_out (!a1) a0.f_deep a0.f_blocks a0.f_parens))
def z3h (r:z02):List XV:=[]
def z3i (r:z02):z0q:=[oB 246 [.row 1,.pv (.bool r.f_form),.pv (.bool r.f_deep),.pv (.int .i64 r.f_blocks),.pv (.int .i64 r.f_parens)],oR false 9 1 (List.map z09 r.f_out)]
noncomputable def z1h (a0:z02) (a1:ByteArray):Option z02 :=
 zhs a1>>=fun v1 =>
 ((if (v1.2.2==0) then (if ((v1.1.length:Int)==1) then (idx v1.1 0>>=fun v2 =>
 if (v2.Kind==1) then (idx v1.1 0>>=fun v3 =>
 z31 a0 (v3.Text.toList==a1.toList)>>=fun v4 =>
 some (v4.f_form,v4.f_deep,v4.f_blocks,v4.f_parens,v4.f_out))
 else (z31 a0 false>>=fun v5 =>
 some (v5.f_form,v5.f_deep,v5.f_blocks,v5.f_parens,v5.f_out)))
 else (z31 a0 false>>=fun v6 =>
 some (v6.f_form,v6.f_deep,v6.f_blocks,v6.f_parens,v6.f_out)))
 else (z31 a0 false>>=fun v7 =>
 some (v7.f_form,v7.f_deep,v7.f_blocks,v7.f_parens,v7.f_out)):Option (Bool × Bool × Int × Int × (List ByteArray)))>>=fun j1 =>
 z0f (z02.mk j1.2.2.2.2 j1.1 j1.2.1 j1.2.2.1 j1.2.2.2.1) [a1]>>=fun v8 =>
 some v8)
def z22 (r:z02):List XV:=[]
def z23 (r:z02):z0q:=[oB 246 [.row 1,.pv (.bool r.f_form),.pv (.bool r.f_deep),.pv (.int .i64 r.f_blocks),.pv (.int .i64 r.f_parens)],oR true 9 1 (List.map z09 r.f_out)]
def z036 (r:ByteArray):List XV:=[xS r]
noncomputable def z4x (a0:z02) (a1:Int):Option z02 :=
 ((if (decide (a1≥0)) then (z31 a0 (decide (a1≤2147483647))>>=fun v1 =>
 some (v1.f_form,v1.f_deep,v1.f_blocks,v1.f_parens,v1.f_out))
 else (z31 a0 false>>=fun v2 =>
 some (v2.f_form,v2.f_deep,v2.f_blocks,v2.f_parens,v2.f_out)):Option (Bool × Bool × Int × Int × (List ByteArray)))>>=fun j1 =>
 itoa a1>>=fun v3 =>
 z0f (z02.mk j1.2.2.2.2 j1.1 j1.2.1 j1.2.2.1 j1.2.2.2.1) [v3]>>=fun v4 =>
 some v4)
def z72 (r:z02):List XV:=[]
def z73 (r:z02):z0q:=[oB 246 [.row 1,.pv (.bool r.f_form),.pv (.bool r.f_deep),.pv (.int .i64 r.f_blocks),.pv (.int .i64 r.f_parens)],oR true 9 1 (List.map z09 r.f_out)]
noncomputable def z5m (a1:z29) (x2:(Int × Bool × Bool × Int × Int × (List ByteArray))):Option (Sum (Int × Bool × Bool × Int × Int × (List ByteArray)) (Sum z02 (Bool × Bool × Int × Int × (List ByteArray)))) :=
 if (decide (x2.1<(a1.Tags.length:Int))) then (((idx a1.Tags x2.1>>=fun v11 =>
 if (decide (x2.1 > 0)) then (z0f (z02.mk x2.2.2.2.2.2 x2.2.1 x2.2.2.1 x2.2.2.2.1 x2.2.2.2.2.1) [(ByteArray.mk #[44])]>>=fun v12 =>
 z1h v12 v11>>=fun v13 =>
 some (v13.f_form,v13.f_deep,v13.f_blocks,v13.f_parens,v13.f_out))
 else (z1h (z02.mk x2.2.2.2.2.2 x2.2.1 x2.2.2.1 x2.2.2.2.1 x2.2.2.2.2.1) v11>>=fun v14 =>
 some (v14.f_form,v14.f_deep,v14.f_blocks,v14.f_parens,v14.f_out)):Option (Bool × Bool × Int × Int × (List ByteArray)))>>=fun j3 =>
 some (.inl ((IntKind.i64.wrap (x2.1+1)),j3.1,j3.2.1,j3.2.2.1,j3.2.2.2.1,j3.2.2.2.2))))
 else (some (.inr (.inr (x2.2.1,x2.2.2.1,x2.2.2.2.1,x2.2.2.2.2.1,x2.2.2.2.2.2))))
noncomputable def z5n (a1:z29) (x4:(Int × Bool × Bool × Int × Int × (List ByteArray))):Option (Sum (Int × Bool × Bool × Int × Int × (List ByteArray)) (Sum z02 (Bool × Bool × Int × Int × (List ByteArray)))) :=
 if (decide (x4.1<(a1.Tags.length:Int))) then (((idx a1.Tags x4.1>>=fun v25 =>
 if (decide (x4.1 > 0)) then (z0f (z02.mk x4.2.2.2.2.2 x4.2.1 x4.2.2.1 x4.2.2.2.1 x4.2.2.2.2.1) [(ByteArray.mk #[44])]>>=fun v26 =>
 z1h v26 v25>>=fun v27 =>
 some (v27.f_form,v27.f_deep,v27.f_blocks,v27.f_parens,v27.f_out))
 else (z1h (z02.mk x4.2.2.2.2.2 x4.2.1 x4.2.2.1 x4.2.2.2.1 x4.2.2.2.2.1) v25>>=fun v28 =>
 some (v28.f_form,v28.f_deep,v28.f_blocks,v28.f_parens,v28.f_out)):Option (Bool × Bool × Int × Int × (List ByteArray)))>>=fun j5 =>
 some (.inl ((IntKind.i64.wrap (x4.1+1)),j5.1,j5.2.1,j5.2.2.1,j5.2.2.2.1,j5.2.2.2.2))))
 else (some (.inr (.inr (x4.2.1,x4.2.2.1,x4.2.2.2.1,x4.2.2.2.2.1,x4.2.2.2.2.2))))
noncomputable def z7m (a0:z02) (a1:z29):Option z02 :=
 z0f a0 [(ByteArray.mk #[99,104,97,110])]>>=fun v1 =>
 z1h v1 a1.Name>>=fun v2 =>
 ((if (decide (a1.Kind<0)) then (some true)
 else (some (decide (a1.Kind≥3))):Option Bool)>>=fun j1 =>
 if j1 then (z31 v2 false>>=fun v3 =>
 z4x v3 a1.Size>>=fun v4 =>
 z0f v4 [(ByteArray.mk #[102,114,111,109])]>>=fun v5 =>
 z1h v5 a1.From>>=fun v6 =>
 z0f v6 [(ByteArray.mk #[116,111])]>>=fun v7 =>
 z1h v7 a1.To>>=fun v8 =>
 z0f v8 [(ByteArray.mk #[123])]>>=fun v9 =>
 z31 v9 (decide ((a1.Tags.length:Int) > 0))>>=fun v10 =>
 iter (z5m a1) (0,v10.f_form,v10.f_deep,v10.f_blocks,v10.f_parens,v10.f_out)>>=Sum.elim (fun _=>none) (fun j2 =>
 z0f (z02.mk j2.2.2.2.2 j2.1 j2.2.1 j2.2.2.1 j2.2.2.2.1) [(ByteArray.mk #[125]),(ByteArray.mk #[59])]>>=fun v15 =>
 some v15))
 else (idx [(ByteArray.mk #[98,108,111,99,107]),(ByteArray.mk #[100,114,111,112]),(ByteArray.mk #[108,111,115,115,121])] a1.Kind>>=fun v16 =>
 z0f v2 [v16]>>=fun v17 =>
 z4x v17 a1.Size>>=fun v18 =>
 z0f v18 [(ByteArray.mk #[102,114,111,109])]>>=fun v19 =>
 z1h v19 a1.From>>=fun v20 =>
 z0f v20 [(ByteArray.mk #[116,111])]>>=fun v21 =>
 z1h v21 a1.To>>=fun v22 =>
 z0f v22 [(ByteArray.mk #[123])]>>=fun v23 =>
 z31 v23 (decide ((a1.Tags.length:Int) > 0))>>=fun v24 =>
 iter (z5n a1) (0,v24.f_form,v24.f_deep,v24.f_blocks,v24.f_parens,v24.f_out)>>=Sum.elim (fun _=>none) (fun j4 =>
 z0f (z02.mk j4.2.2.2.2 j4.1 j4.2.1 j4.2.2.1 j4.2.2.2.1) [(ByteArray.mk #[125]),(ByteArray.mk #[59])]>>=fun v29 =>
 some v29)))
def zb6 (r:z02):List XV:=[]
def zb7 (r:z02):z0q:=[oB 246 [.row 1,.pv (.bool r.f_form),.pv (.bool r.f_deep),.pv (.int .i64 r.f_blocks),.pv (.int .i64 r.f_parens)],oR true 9 1 (List.map z09 r.f_out)]
noncomputable def zdz (r:z02):Tg:=.r false Tryz.f112.results.toList 2 (zb6 r) (zb7 r)
noncomputable def z6k (a1:z3e) (x1:(Int × Bool × Bool × Int × Int × (List ByteArray))):Option (Sum (Int × Bool × Bool × Int × Int × (List ByteArray)) (Sum z02 (Bool × Bool × Int × Int × (List ByteArray)))) :=
 if (decide (x1.1<(a1.Moves.length:Int))) then (idx a1.Moves x1.1>>=fun v4 =>
 z4x (z02.mk x1.2.2.2.2.2 x1.2.1 x1.2.2.1 x1.2.2.2.1 x1.2.2.2.2.1) v4.From>>=fun v5 =>
 z1h v5 v4.Tag>>=fun v6 =>
 z4x v6 v4.To>>=fun v7 =>
 z0f v7 [(ByteArray.mk #[59])]>>=fun v8 =>
 some (.inl ((IntKind.i64.wrap (x1.1+1)),v8.f_form,v8.f_deep,v8.f_blocks,v8.f_parens,v8.f_out)))
 else (some (.inr (.inr (x1.2.1,x1.2.2.1,x1.2.2.2.1,x1.2.2.2.2.1,x1.2.2.2.2.2))))
noncomputable def z9c (a0:z02) (a1:z3e):Option z02 :=
 z0f a0 [(ByteArray.mk #[114,117,108,101])]>>=fun v1 =>
 z1h v1 a1.Chan>>=fun v2 =>
 z0f v2 [(ByteArray.mk #[123])]>>=fun v3 =>
 iter (z6k a1) (0,v3.f_form,v3.f_deep,v3.f_blocks,v3.f_parens,v3.f_out)>>=Sum.elim (fun _=>none) (fun j1 =>
 z0f (z02.mk j1.2.2.2.2 j1.1 j1.2.1 j1.2.2.1 j1.2.2.2.1) [(ByteArray.mk #[125])]>>=fun v9 =>
 some v9)
def zd2 (r:z02):List XV:=[]
def zd3 (r:z02):z0q:=[oB 246 [.row 1,.pv (.bool r.f_form),.pv (.bool r.f_deep),.pv (.int .i64 r.f_blocks),.pv (.int .i64 r.f_parens)],oR true 9 1 (List.map z09 r.f_out)]
noncomputable def zlv (r:z02):Tg:=.r false Tryz.f113.results.toList 2 (zd2 r) (zd3 r)
noncomputable def zgx (a0:Int):Option Bool :=
 if (decide (a0≥4)) then (some (decide (a0≤8)))
 else (some false)
def zeg (r:Bool):List XV:=[xB r]
def zwr (r:Bool):z0q:=[]
noncomputable def zhu (a0:Int):Option Bool :=
 if (a0==4) then (some true)
 else (some (a0==5))
def zbd (r:Bool):List XV:=[xB r]
def zz4 (r:Bool):z0q:=[]
noncomputable def zae (a0:z02) (a1:z06):Option z02 :=
 z31 a0 ((a1.Kids.length:Int)==0)>>=fun v1 =>
 if (a1.Kind==1) then (z4x v1 a1.Num>>=fun v2 =>
 some v2)
 else (z31 v1 (a1.Kind==2)>>=fun v3 =>
 z1h v3 a1.Name>>=fun v4 =>
 some v4)
def zgc (r:z02):List XV:=[]
def zgd (r:z02):z0q:=[oB 246 [.row 1,.pv (.bool r.f_form),.pv (.bool r.f_deep),.pv (.int .i64 r.f_blocks),.pv (.int .i64 r.f_parens)],oR true 9 1 (List.map z09 r.f_out)]
def z34 (r:z02):List XV:=[]
def z35 (r:z02):z0q:=[oB 246 [.row 1,.pv (.bool r.f_form),.pv (.bool r.f_deep),.pv (.int .i64 r.f_blocks),.pv (.int .i64 r.f_parens)],oR true 9 1 (List.map z09 r.f_out)]
def z1s (r:z02):List XV:=[]
def z1t (a1011:z06) (r:z02):z0q:=[oB 246 [.row 1,.pv (.bool r.f_form),.pv (.bool r.f_deep),.pv (.int .i64 r.f_blocks),.pv (.int .i64 r.f_parens)],oR true 9 1 (List.map z09 r.f_out),oB 244 [.box 0 0],oB 152 (bs (z0o a1011))]
def z48 (r:z02):List XV:=[]
def z49 (r:z02):z0q:=[oB 246 [.row 1,.pv (.bool r.f_form),.pv (.bool r.f_deep),.pv (.int .i64 r.f_blocks),.pv (.int .i64 r.f_parens)],oR true 9 1 (List.map z09 r.f_out)]
def z57 (r:z02):List XV:=[]
def z58 (a1:z06) (r:z02):z0q:=[oB 244 [.box 1 0],oB 246 [.row 2,.pv (.bool r.f_form),.pv (.bool r.f_deep),.pv (.int .i64 r.f_blocks),.pv (.int .i64 r.f_parens)],oR true 9 1 (List.map z09 r.f_out),oB 152 (bs (z0o a1))]
def z1w (r:z02):List XV:=[]
def z1x (a1011:z06) (r:z02):z0q:=[oB 246 [.row 1,.pv (.bool r.f_form),.pv (.bool r.f_deep),.pv (.int .i64 r.f_blocks),.pv (.int .i64 r.f_parens)],oR true 9 1 (List.map z09 r.f_out),oB 244 [.box 0 0],oB 152 (bs (z0o a1011))]
def z5g (r:z02):List XV:=[]
def z5h (a1:z06) (r:z02):z0q:=[oB 244 [.box 1 0],oB 246 [.row 2,.pv (.bool r.f_form),.pv (.bool r.f_deep),.pv (.int .i64 r.f_blocks),.pv (.int .i64 r.f_parens)],oR true 9 1 (List.map z09 r.f_out),oB 152 (bs (z0o a1))]
mutual
noncomputable def z2e:Nat→z02→z06→Option z02
  | 0,_,_=>none
  | n+1,a0,a1=>((if (a1.Kind==3) then (some ((a1.Kids.length:Int)==1))
 else (some false):Option Bool)>>=fun j1 =>
 if j1 then (z0f a0 [(ByteArray.mk #[45])]>>=fun v1 =>
 (z10 n) v1 a1>>=fun v2 =>
 some v2)
 else (((zgx a1.Kind>>=fun v3 =>
 if v3 then (some ((a1.Kids.length:Int)==2))
 else (some false):Option Bool)>>=fun j2 =>
 if j2 then (idx a1.Kids 0>>=fun v4 =>
 idx a1.Kids 1>>=fun v5 =>
 ((zhu a1.Kind>>=fun v6 =>
 if (!v6) then (zhu v4.Kind>>=fun v7 =>
 (z2g n) a0 v4 v7>>=fun v8 =>
 some (v8.f_form,v8.f_deep,v8.f_blocks,v8.f_parens,v8.f_out))
 else ((z2g n) a0 v4 false>>=fun v9 =>
 some (v9.f_form,v9.f_deep,v9.f_blocks,v9.f_parens,v9.f_out)):Option (Bool × Bool × Int × Int × (List ByteArray)))>>=fun j3 =>
 idx [(ByteArray.mk #[43]),(ByteArray.mk #[45]),(ByteArray.mk #[42]),(ByteArray.mk #[47]),(ByteArray.mk #[37])] (IntKind.i64.wrap (a1.Kind - 4))>>=fun v10 =>
 z0f (z02.mk j3.2.2.2.2 j3.1 j3.2.1 j3.2.2.1 j3.2.2.2.1) [v10]>>=fun v11 =>
 zhu v5.Kind>>=fun v12 =>
 if v12 then ((z2g n) v11 v5 true>>=fun v13 =>
 some v13)
 else (zhu a1.Kind>>=fun v14 =>
 if (!v14) then (zgx v5.Kind>>=fun v15 =>
 (z2g n) v11 v5 v15>>=fun v16 =>
 some v16)
 else ((z2g n) v11 v5 false>>=fun v17 =>
 some v17))))
 else (zae a0 a1>>=fun v18 =>
 some v18))))
noncomputable def z10:Nat→z02→z06→Option z02
  | 0,_,_=>none
  | n+1,a0,a1011=>((if a0.f_deep then (some true)
 else (some (decide ((IntKind.i64.wrap (a0.f_parens+1)) > 24))):Option Bool)>>=fun j1 =>
 (z3f n) (z02.mk a0.f_out a0.f_form j1 a0.f_blocks (IntKind.i64.wrap (a0.f_parens+1))) a1011>>=fun v1 =>
 some (z02.mk v1.f_out v1.f_form v1.f_deep v1.f_blocks (IntKind.i64.wrap (v1.f_parens - 1))))
noncomputable def z2g:Nat→z02→z06→Bool→Option z02
  | 0,_,_,_=>none
  | n+1,a0,a1,a2=>if (!a2) then ((z2e n) a0 a1>>=fun v1 =>
 some v1)
 else (z0f a0 [(ByteArray.mk #[40])]>>=fun v2 =>
 (z11 n) v2 a1>>=fun v3 =>
 z0f v3 [(ByteArray.mk #[41])]>>=fun v4 =>
 some v4)
noncomputable def z3f:Nat→z02→z06→Option z02
  | 0,_,_=>none
  | n+1,a0,a1=>idx a1.Kids 0>>=fun v1 =>
 zgx v1.Kind>>=fun v2 =>
 (z2g n) a0 v1 v2>>=fun v3 =>
 some v3
noncomputable def z11:Nat→z02→z06→Option z02
  | 0,_,_=>none
  | n+1,a0,a1011=>((if a0.f_deep then (some true)
 else (some (decide ((IntKind.i64.wrap (a0.f_parens+1)) > 24))):Option Bool)>>=fun j1 =>
 (z3q n) (z02.mk a0.f_out a0.f_form j1 a0.f_blocks (IntKind.i64.wrap (a0.f_parens+1))) a1011>>=fun v1 =>
 some (z02.mk v1.f_out v1.f_form v1.f_deep v1.f_blocks (IntKind.i64.wrap (v1.f_parens - 1))))
noncomputable def z3q:Nat→z02→z06→Option z02
  | 0,_,_=>none
  | n+1,a0,a1=>(z2e n) a0 a1>>=fun v1 =>
 some v1
end
noncomputable def z88 (a0:z02) (a1:z06):Option z02:=unf fun n=>z2e n a0 a1
noncomputable def z89 (a0:z02) (a1:z4j):Option z02 :=
 z0f a0 [(ByteArray.mk #[40])]>>=fun v1 =>
 z88 v1 a1.L>>=fun v2 =>
 ((if (decide (a1.Op<1)) then (some true)
 else (some (decide (a1.Op > 6))):Option Bool)>>=fun j1 =>
 if j1 then (z31 v2 false>>=fun v3 =>
 z88 v3 a1.R>>=fun v4 =>
 z0f v4 [(ByteArray.mk #[41])]>>=fun v5 =>
 some v5)
 else (idx [(ByteArray.mk #[61,61]),(ByteArray.mk #[33,61]),(ByteArray.mk #[60]),(ByteArray.mk #[60,61]),(ByteArray.mk #[62]),(ByteArray.mk #[62,61])] (IntKind.i64.wrap (a1.Op - 1))>>=fun v6 =>
 z0f v2 [v6]>>=fun v7 =>
 z88 v7 a1.R>>=fun v8 =>
 z0f v8 [(ByteArray.mk #[41])]>>=fun v9 =>
 some v9))
def zav (r:z02):List XV:=[]
def zaw (r:z02):z0q:=[oB 246 [.row 1,.pv (.bool r.f_form),.pv (.bool r.f_deep),.pv (.int .i64 r.f_blocks),.pv (.int .i64 r.f_parens)],oR true 9 1 (List.map z09 r.f_out)]
noncomputable def z68 (F_ast_writer_stmts:z02→(List z05)→Option z02) (F_ast_writer_stmt:z02→z05→Option z02) (F_ast_writer_block:z02→(List z05)→Option z02) (F_ast_writer_arms:z02→(List z1r)→Option z02) (a1:(List z05)) (x1:(Int × Bool × Bool × Int × Int × (List ByteArray))):Option (Sum (Int × Bool × Bool × Int × Int × (List ByteArray)) (Sum z02 (Bool × Bool × Int × Int × (List ByteArray)))) :=
 if (decide (x1.1<(a1.length:Int))) then (idx a1 x1.1>>=fun v1 =>
 F_ast_writer_stmt (z02.mk x1.2.2.2.2.2 x1.2.1 x1.2.2.1 x1.2.2.2.1 x1.2.2.2.2.1) v1>>=fun v2 =>
 some (.inl ((IntKind.i64.wrap (x1.1+1)),v2.f_form,v2.f_deep,v2.f_blocks,v2.f_parens,v2.f_out)))
 else (some (.inr (.inr (x1.2.1,x1.2.2.1,x1.2.2.2.1,x1.2.2.2.2.1,x1.2.2.2.2.2))))
def z4y (r:z02):List XV:=[]
def z4z (r:z02):z0q:=[oB 246 [.row 1,.pv (.bool r.f_form),.pv (.bool r.f_deep),.pv (.int .i64 r.f_blocks),.pv (.int .i64 r.f_parens)],oR true 9 1 (List.map z09 r.f_out)]
noncomputable def zkj (r:z02):Tg:=.r false Tryz.f143.results.toList 2 (z4y r) (z4z r)
def z74 (r:z02):List XV:=[]
def z76 (r:z02):z0q:=[oB 246 [.row 1,.pv (.bool r.f_form),.pv (.bool r.f_deep),.pv (.int .i64 r.f_blocks),.pv (.int .i64 r.f_parens)],oR true 9 1 (List.map z09 r.f_out)]
def z50 (r:z02):List XV:=[]
def z52 (r:z02):z0q:=[oB 246 [.row 1,.pv (.bool r.f_form),.pv (.bool r.f_deep),.pv (.int .i64 r.f_blocks),.pv (.int .i64 r.f_parens)],oR true 9 1 (List.map z09 r.f_out)]
noncomputable def z6l (F_ast_writer_stmts:z02→(List z05)→Option z02) (F_ast_writer_stmt:z02→z05→Option z02) (F_ast_writer_block:z02→(List z05)→Option z02) (F_ast_writer_arms:z02→(List z1r)→Option z02) (a1:(List z1r)) (x1:(Int × Bool × Bool × Int × Int × (List ByteArray))):Option (Sum (Int × Bool × Bool × Int × Int × (List ByteArray)) (Sum z02 (Bool × Bool × Int × Int × (List ByteArray)))) :=
 if (decide (x1.1<(a1.length:Int))) then (idx a1 x1.1>>=fun v3 =>
 z1h (z02.mk x1.2.2.2.2.2 x1.2.1 x1.2.2.1 x1.2.2.2.1 x1.2.2.2.2.1) v3.Tag>>=fun v4 =>
 z0f v4 [(ByteArray.mk #[40])]>>=fun v5 =>
 z1h v5 v3.Var>>=fun v6 =>
 z0f v6 [(ByteArray.mk #[41])]>>=fun v7 =>
 F_ast_writer_block v7 v3.Body>>=fun v8 =>
 some (.inl ((IntKind.i64.wrap (x1.1+1)),v8.f_form,v8.f_deep,v8.f_blocks,v8.f_parens,v8.f_out)))
 else (some (.inr (.inr (x1.2.1,x1.2.2.1,x1.2.2.2.1,x1.2.2.2.2.1,x1.2.2.2.2.2))))
def z6c (r:z02):List XV:=[]
def z6d (r:z02):z0q:=[oB 246 [.row 1,.pv (.bool r.f_form),.pv (.bool r.f_deep),.pv (.int .i64 r.f_blocks),.pv (.int .i64 r.f_parens)],oR true 9 1 (List.map z09 r.f_out)]
noncomputable def zlw (r:z02):Tg:=.r false Tryz.f185.results.toList 2 (z6c r) (z6d r)
mutual
noncomputable def z2f:Nat→z02→(List z05)→Option z02
  | 0,_,_=>none
  | n+1,a0,a1=>iter (z68 (z2f n) (z2n n) (z24 n) (z30 n) a1) (0,a0.f_form,a0.f_deep,a0.f_blocks,a0.f_parens,a0.f_out)>>=Sum.elim (fun _=>none) (fun j1 =>
 some (z02.mk j1.2.2.2.2 j1.1 j1.2.1 j1.2.2.1 j1.2.2.2.1))
noncomputable def z2n:Nat→z02→z05→Option z02
  | 0,_,_=>none
  | n+1,a0,a1=>if (a1.Kind==1) then (z1h a0 a1.Name>>=fun v1 =>
 z0f v1 [(ByteArray.mk #[61])]>>=fun v2 =>
 z88 v2 a1.E>>=fun v3 =>
 z0f v3 [(ByteArray.mk #[59])]>>=fun v4 =>
 some v4)
 else (if (a1.Kind==2) then (z0f a0 [(ByteArray.mk #[105,102])]>>=fun v5 =>
 z89 v5 a1.C>>=fun v6 =>
 (z24 n) v6 a1.Body>>=fun v7 =>
 if (decide ((a1.Else.length:Int) > 0)) then (z0f v7 [(ByteArray.mk #[101,108,115,101])]>>=fun v8 =>
 (z24 n) v8 a1.Else>>=fun v9 =>
 some v9)
 else (some v7))
 else (if (a1.Kind==3) then (z0f a0 [(ByteArray.mk #[119,104,105,108,101])]>>=fun v10 =>
 z89 v10 a1.C>>=fun v11 =>
 (z24 n) v11 a1.Body>>=fun v12 =>
 some v12)
 else (if (a1.Kind==4) then (z0f a0 [(ByteArray.mk #[115,101,110,100])]>>=fun v13 =>
 z1h v13 a1.Name>>=fun v14 =>
 z0f v14 [(ByteArray.mk #[46])]>>=fun v15 =>
 z1h v15 a1.Tag>>=fun v16 =>
 z0f v16 [(ByteArray.mk #[40])]>>=fun v17 =>
 z88 v17 a1.E>>=fun v18 =>
 z0f v18 [(ByteArray.mk #[41]),(ByteArray.mk #[59])]>>=fun v19 =>
 some v19)
 else (if (a1.Kind==5) then (z0f a0 [(ByteArray.mk #[114,101,99,118])]>>=fun v20 =>
 z1h v20 a1.Name>>=fun v21 =>
 (z30 n) v21 a1.Arms>>=fun v22 =>
 some v22)
 else (if (a1.Kind==6) then (z0f a0 [(ByteArray.mk #[97,115,115,101,114,116])]>>=fun v23 =>
 z89 v23 a1.C>>=fun v24 =>
 z0f v24 [(ByteArray.mk #[59])]>>=fun v25 =>
 some v25)
 else (if (a1.Kind==7) then (z0f a0 [(ByteArray.mk #[105,110,112,117,116])]>>=fun v26 =>
 z1h v26 a1.Name>>=fun v27 =>
 z0f v27 [(ByteArray.mk #[59])]>>=fun v28 =>
 some v28)
 else (z31 a0 false>>=fun v29 =>
 some v29)))))))
noncomputable def z24:Nat→z02→(List z05)→Option z02
  | 0,_,_=>none
  | n+1,a0,a1=>z0f a0 [(ByteArray.mk #[123])]>>=fun v1 =>
 ((if v1.f_deep then (some true)
 else (some (decide ((IntKind.i64.wrap (v1.f_blocks+1)) > 24))):Option Bool)>>=fun j1 =>
 (z2f n) (z02.mk v1.f_out v1.f_form j1 (IntKind.i64.wrap (v1.f_blocks+1)) v1.f_parens) a1>>=fun v2 =>
 z0f (z02.mk v2.f_out v2.f_form v2.f_deep (IntKind.i64.wrap (v2.f_blocks - 1)) v2.f_parens) [(ByteArray.mk #[125])]>>=fun v3 =>
 some v3)
noncomputable def z30:Nat→z02→(List z1r)→Option z02
  | 0,_,_=>none
  | n+1,a0,a1=>z31 a0 (decide ((a1.length:Int) > 0))>>=fun v1 =>
 z0f v1 [(ByteArray.mk #[123])]>>=fun v2 =>
 iter (z6l (z2f n) (z2n n) (z24 n) (z30 n) a1) (0,v2.f_form,v2.f_deep,v2.f_blocks,v2.f_parens,v2.f_out)>>=Sum.elim (fun _=>none) (fun j1 =>
 z0f (z02.mk j1.2.2.2.2 j1.1 j1.2.1 j1.2.2.1 j1.2.2.2.1) [(ByteArray.mk #[125])]>>=fun v9 =>
 some v9)
end
noncomputable def zbj (a0:z02) (a1:(List z05)):Option z02:=unf fun n=>z2f n a0 a1
noncomputable def z7n (a1:z3k) (x1:(Int × Bool × Bool × Int × Int × (List ByteArray))):Option (Sum (Int × Bool × Bool × Int × Int × (List ByteArray)) (Sum z02 (Bool × Bool × Int × Int × (List ByteArray)))) :=
 if (decide (x1.1<(a1.Vars.length:Int))) then (idx a1.Vars x1.1>>=fun v4 =>
 z0f (z02.mk x1.2.2.2.2.2 x1.2.1 x1.2.2.1 x1.2.2.2.1 x1.2.2.2.2.1) [(ByteArray.mk #[118,97,114])]>>=fun v5 =>
 z1h v5 v4>>=fun v6 =>
 z0f v6 [(ByteArray.mk #[59])]>>=fun v7 =>
 some (.inl ((IntKind.i64.wrap (x1.1+1)),v7.f_form,v7.f_deep,v7.f_blocks,v7.f_parens,v7.f_out)))
 else (some (.inr (.inr (x1.2.1,x1.2.2.1,x1.2.2.2.1,x1.2.2.2.2.1,x1.2.2.2.2.2))))
noncomputable def z9d (a0:z02) (a1:z3k):Option z02 :=
 z0f a0 [(ByteArray.mk #[112,114,111,99])]>>=fun v1 =>
 z1h v1 a1.Name>>=fun v2 =>
 z0f v2 [(ByteArray.mk #[123])]>>=fun v3 =>
 iter (z7n a1) (0,v3.f_form,v3.f_deep,v3.f_blocks,v3.f_parens,v3.f_out)>>=Sum.elim (fun _=>none) (fun j1 =>
 zbj (z02.mk j1.2.2.2.2 j1.1 j1.2.1 j1.2.2.1 j1.2.2.2.1) a1.Body>>=fun v8 =>
 z0f v8 [(ByteArray.mk #[125])]>>=fun v9 =>
 some v9)
def zd4 (r:z02):List XV:=[]
def zd5 (r:z02):z0q:=[oB 246 [.row 1,.pv (.bool r.f_form),.pv (.bool r.f_deep),.pv (.int .i64 r.f_blocks),.pv (.int .i64 r.f_parens)],oR true 9 1 (List.map z09 r.f_out)]
noncomputable def zlx (r:z02):Tg:=.r false Tryz.f114.results.toList 2 (zd4 r) (zd5 r)
noncomputable def zaf (a0:z17) (x1:(Int × Bool × Bool × Int × Int × (List ByteArray))):Option (Sum (Int × Bool × Bool × Int × Int × (List ByteArray)) (Sum ((List ByteArray) × Int) (Bool × Bool × Int × Int × (List ByteArray)))) :=
 if (decide (x1.1<(a0.Chans.length:Int))) then (idx a0.Chans x1.1>>=fun v1 =>
 z7m (z02.mk x1.2.2.2.2.2 x1.2.1 x1.2.2.1 x1.2.2.2.1 x1.2.2.2.2.1) v1>>=fun v2 =>
 some (.inl ((IntKind.i64.wrap (x1.1+1)),v2.f_form,v2.f_deep,v2.f_blocks,v2.f_parens,v2.f_out)))
 else (some (.inr (.inr (x1.2.1,x1.2.2.1,x1.2.2.2.1,x1.2.2.2.2.1,x1.2.2.2.2.2))))
noncomputable def zag (a0:z17) (x2:(Int × Bool × Bool × Int × Int × (List ByteArray))):Option (Sum (Int × Bool × Bool × Int × Int × (List ByteArray)) (Sum ((List ByteArray) × Int) (Bool × Bool × Int × Int × (List ByteArray)))) :=
 if (decide (x2.1<(a0.Rules.length:Int))) then (idx a0.Rules x2.1>>=fun v3 =>
 z9c (z02.mk x2.2.2.2.2.2 x2.2.1 x2.2.2.1 x2.2.2.2.1 x2.2.2.2.2.1) v3>>=fun v4 =>
 some (.inl ((IntKind.i64.wrap (x2.1+1)),v4.f_form,v4.f_deep,v4.f_blocks,v4.f_parens,v4.f_out)))
 else (some (.inr (.inr (x2.2.1,x2.2.2.1,x2.2.2.2.1,x2.2.2.2.2.1,x2.2.2.2.2.2))))
noncomputable def zah (a0:z17) (x3:(Int × Bool × Bool × Int × Int × (List ByteArray))):Option (Sum (Int × Bool × Bool × Int × Int × (List ByteArray)) (Sum ((List ByteArray) × Int) (Bool × Bool × Int × Int × (List ByteArray)))) :=
 if (decide (x3.1<(a0.Procs.length:Int))) then (idx a0.Procs x3.1>>=fun v5 =>
 z9d (z02.mk x3.2.2.2.2.2 x3.2.1 x3.2.2.1 x3.2.2.2.1 x3.2.2.2.2.1) v5>>=fun v6 =>
 some (.inl ((IntKind.i64.wrap (x3.1+1)),v6.f_form,v6.f_deep,v6.f_blocks,v6.f_parens,v6.f_out)))
 else (some (.inr (.inr (x3.2.1,x3.2.2.1,x3.2.2.2.1,x3.2.2.2.2.1,x3.2.2.2.2.2))))
noncomputable def zhv (a0:z17):Option ((List ByteArray) × Int) :=
 iter (zaf a0) (0,false,false,0,0,[])>>=Sum.elim (fun _=>none) (fun j1 =>
 iter (zag a0) (0,j1.1,j1.2.1,j1.2.2.1,j1.2.2.2.1,j1.2.2.2.2)>>=Sum.elim (fun _=>none) (fun j2 =>
 iter (zah a0) (0,j2.1,j2.2.1,j2.2.2.1,j2.2.2.2.1,j2.2.2.2.2)>>=Sum.elim (fun _=>none) (fun j3 =>
 if j3.1 then (some ([],5))
 else (if j3.2.1 then (some ([],6))
 else (if (decide ((j3.2.2.2.2.length:Int) > 2000)) then (some ([],4))
 else (some (j3.2.2.2.2,0)))))))
def zgy (r:((List ByteArray) × Int)):List XV:=[xL (List.map z09 r.1),xI r.2]
def znw (r:((List ByteArray) × Int)):z0q:=[]
noncomputable def zjk (r:((List ByteArray) × Int)):Tg:=.r false Tryz.f69.results.toList 0 (zgy r) (znw r)
noncomputable def zcj (a0:z17):Option Bool :=
 zhv a0>>=fun v1 =>
 some (v1.2 != 5)
def zep (r:Bool):List XV:=[xB r]
def znx (r:Bool):z0q:=[]
noncomputable def zbk (a0:z01) (a1:Int):Option z01 :=
 if (a0.f_e==0) then (some (z01.mk a0.f_s a0.f_p a0.f_chans a0.f_procs a0.f_proc a0.f_vars a1))
 else (some a0)
def zff (r:z01):List XV:=[]
def zfg (a0:z01) (r:z01):z0q:=[oB 117 [.pv (.sl (List.map z0c a0.f_s.Chans)),.pv (.sl (List.map z0e a0.f_s.Rules)),.pv (.sl (List.map z0d a0.f_s.Procs)),.row 1,.row 2,.row 3,.row 4,.pv (.int .i64 a0.f_proc),.pv (.sl (List.map z09 a0.f_vars)),.pv (.int .i64 r.f_e)],oT false none 69 6 (List.map z04 a0.f_p.Chans),oR false 78 2 (List.map z0b a0.f_p.Procs),oR false 9 1 (List.map z09 a0.f_chans),oR false 9 1 (List.map z09 a0.f_procs)]
noncomputable def z14 (a0:z01) (a1:Bool) (a2:Int):Option z01 :=
 if (!a1) then (zbk a0 a2>>=fun v1 =>
 some (z01.mk a0.f_s a0.f_p a0.f_chans a0.f_procs a0.f_proc a0.f_vars v1.f_e))
 else (some a0)
def z1y (r:z01):List XV:=[]
def z1z (a0:z01) (r:z01):z0q:=[oB 117 [.pv (.sl (List.map z0c a0.f_s.Chans)),.pv (.sl (List.map z0e a0.f_s.Rules)),.pv (.sl (List.map z0d a0.f_s.Procs)),.row 1,.row 2,.row 3,.row 4,.pv (.int .i64 a0.f_proc),.pv (.sl (List.map z09 a0.f_vars)),.pv (.int .i64 r.f_e)],oT false none 69 6 (List.map z04 a0.f_p.Chans),oR false 78 2 (List.map z0b a0.f_p.Procs),oR false 9 1 (List.map z09 a0.f_chans),oR false 9 1 (List.map z09 a0.f_procs)]
noncomputable def z3m (a0:(List ByteArray)) (a1:ByteArray) (x1:Int):Option (Sum Int (Sum Int Unit)) :=
 if (decide (x1<(a0.length:Int))) then (idx a0 x1>>=fun v1 =>
 if (a1.toList==v1.toList) then (some (.inr (.inl x1)))
 else (some (.inl (IntKind.i64.wrap (x1+1)))))
 else (some (.inr (.inr ())))
noncomputable def z3n (a0:(List ByteArray)) (a1:ByteArray):Option Int :=
 iter (z3m a0 a1) 0>>=Sum.elim (fun r=>some r) (fun j1 =>
 some (-1))
def z3v (r:Int):List XV:=[xI r]
def z9x (r:Int):z0q:=[]
noncomputable def zdw (r:Int):Tg:=.r false Tryz.f117.results.toList 0 (z3v r) (z9x r)
noncomputable def z3o (a0:(List ByteArray)) (a1:ByteArray):Option Bool :=
 z3n a0 a1>>=fun v1 =>
 some (decide (v1≥0))
def z4w (r:Bool):List XV:=[xB r]
def zcs (r:Bool):z0q:=[]
noncomputable def z9e (a0:z01) (a2:ByteArray):Option (z01 × (List ByteArray)) :=
 z3o a0.f_chans a2>>=fun v1 =>
 z14 a0 (!v1) 7>>=fun v2 =>
 app 16 a0.f_chans [a2]>>=fun v3 =>
 some ((z01.mk a0.f_s a0.f_p [] a0.f_procs a0.f_proc a0.f_vars v2.f_e),v3)
def zge (r:(z01 × (List ByteArray))):List XV:=[xR 3]
def zgf (a0:z01) (r:(z01 × (List ByteArray))):z0q:=[oB 117 [.pv (.sl (List.map z0c a0.f_s.Chans)),.pv (.sl (List.map z0e a0.f_s.Rules)),.pv (.sl (List.map z0d a0.f_s.Procs)),.row 1,.row 2,.any,.row 4,.pv (.int .i64 a0.f_proc),.pv (.sl (List.map z09 a0.f_vars)),.pv (.int .i64 r.1.f_e)],oT false none 69 6 (List.map z04 a0.f_p.Chans),oR false 78 2 (List.map z0b a0.f_p.Procs),oR true 9 1 (List.map z09 r.2),oR false 9 1 (List.map z09 a0.f_procs)]
noncomputable def z6e (a0:z01) (a1:(List ByteArray)) (a2:ByteArray):Option (z01 × (List ByteArray) × (List ByteArray)) :=
 z3o a1 a2>>=fun v1 =>
 z14 a0 (!v1) 7>>=fun v2 =>
 app 16 a1 [a2]>>=fun v3 =>
 some ((z01.mk a0.f_s a0.f_p a0.f_chans a0.f_procs a0.f_proc a0.f_vars v2.f_e),v3,v3)
def zbp (r:(z01 × (List ByteArray) × (List ByteArray))):List XV:=[xR 5]
def zbq (a0:z01) (r:(z01 × (List ByteArray) × (List ByteArray))):z0q:=[oB 117 [.pv (.sl (List.map z0c a0.f_s.Chans)),.pv (.sl (List.map z0e a0.f_s.Rules)),.pv (.sl (List.map z0d a0.f_s.Procs)),.row 1,.row 2,.row 3,.row 4,.pv (.int .i64 a0.f_proc),.pv (.sl (List.map z09 a0.f_vars)),.pv (.int .i64 r.1.f_e)],oT false none 69 6 (List.map z04 a0.f_p.Chans),oR false 78 2 (List.map z0b a0.f_p.Procs),oR false 9 1 (List.map z09 a0.f_chans),oR false 9 1 (List.map z09 a0.f_procs),oR true 9 1 (List.map z09 r.2.1)]
noncomputable def z6s (a0:z01) (a1:(List ByteArray)) (x1:(Int × Int × (List ByteArray))):Option (Sum (Int × Int × (List ByteArray)) (Sum z01 Int)) :=
 if (decide (x1.1<(a1.length:Int))) then (idx a1 x1.1>>=fun v1 =>
 z6e (z01.mk a0.f_s a0.f_p a0.f_chans a0.f_procs a0.f_proc a0.f_vars x1.2.1) x1.2.2 v1>>=fun v2 =>
 some (.inl ((IntKind.i64.wrap (x1.1+1)),v2.1.f_e,v2.2.1)))
 else (some (.inr (.inr x1.2.1)))
noncomputable def z6f (a0:z01) (a1:(List ByteArray)):Option z01 :=
 iter (z6s a0 a1) (0,a0.f_e,[])>>=Sum.elim (fun _=>none) (fun j1 =>
 some (z01.mk a0.f_s a0.f_p a0.f_chans a0.f_procs a0.f_proc a0.f_vars j1))
def z9n (r:z01):List XV:=[]
def z9o (a0:z01) (r:z01):z0q:=[oB 117 [.pv (.sl (List.map z0c a0.f_s.Chans)),.pv (.sl (List.map z0e a0.f_s.Rules)),.pv (.sl (List.map z0d a0.f_s.Procs)),.row 1,.row 2,.row 3,.row 4,.pv (.int .i64 a0.f_proc),.pv (.sl (List.map z09 a0.f_vars)),.pv (.int .i64 r.f_e)],oT false none 69 6 (List.map z04 a0.f_p.Chans),oR false 78 2 (List.map z0b a0.f_p.Procs),oR false 9 1 (List.map z09 a0.f_chans),oR false 9 1 (List.map z09 a0.f_procs)]
noncomputable def zjl (a0:z01) (r:z01):Tg:=.r false Tryz.f72.results.toList 5 (z9n r) (z9o a0 r)
noncomputable def z64 (a0:z01) (x1:(Int × Int × (List z0a) × (List ByteArray))):Option (Sum (Int × Int × (List z0a) × (List ByteArray)) (Sum z01 (Int × (List z0a) × (List ByteArray)))) :=
 if (decide (x1.1<(a0.f_s.Chans.length:Int))) then (idx a0.f_s.Chans x1.1>>=fun v2 =>
 z9e (z01.mk a0.f_s (z18.mk x1.2.2.1 a0.f_p.Procs) x1.2.2.2 a0.f_procs a0.f_proc a0.f_vars x1.2.1) v2.Name>>=fun v3 =>
 ((if (decide (v2.Size≥1)) then (if (decide (v2.Size≤16)) then (z14 (z01.mk a0.f_s (z18.mk x1.2.2.1 a0.f_p.Procs) v3.2 a0.f_procs a0.f_proc a0.f_vars v3.1.f_e) (decide ((v2.Tags.length:Int)≤4)) 10>>=fun v4 =>
 some v4.f_e)
 else (z14 (z01.mk a0.f_s (z18.mk x1.2.2.1 a0.f_p.Procs) v3.2 a0.f_procs a0.f_proc a0.f_vars v3.1.f_e) false 10>>=fun v5 =>
 some v5.f_e))
 else (z14 (z01.mk a0.f_s (z18.mk x1.2.2.1 a0.f_p.Procs) v3.2 a0.f_procs a0.f_proc a0.f_vars v3.1.f_e) false 10>>=fun v6 =>
 some v6.f_e):Option Int)>>=fun j2 =>
 z6f (z01.mk a0.f_s (z18.mk x1.2.2.1 a0.f_p.Procs) v3.2 a0.f_procs a0.f_proc a0.f_vars j2) v2.Tags>>=fun v7 =>
 app 64 x1.2.2.1 [(z0a.mk v2.Kind v2.Size 0 0 (v2.Tags.length:Int) [])]>>=fun v8 =>
 some (.inl ((IntKind.i64.wrap (x1.1+1)),v7.f_e,v8,v3.2))))
 else (some (.inr (.inr (x1.2.1,x1.2.2.1,x1.2.2.2))))
noncomputable def z8a (a0:z01):Option z01 :=
 z14 a0 (decide ((a0.f_s.Chans.length:Int)≤4)) 10>>=fun v1 =>
 iter (z64 a0) (0,v1.f_e,a0.f_p.Chans,a0.f_chans)>>=Sum.elim (fun _=>none) (fun j1 =>
 some (z01.mk a0.f_s (z18.mk j1.2.1 a0.f_p.Procs) j1.2.2 a0.f_procs a0.f_proc a0.f_vars j1.1))
def zai (r:z01):List XV:=[]
def zaj (a0:z01) (r:z01):z0q:=[oB 117 [.pv (.sl (List.map z0c a0.f_s.Chans)),.pv (.sl (List.map z0e a0.f_s.Rules)),.pv (.sl (List.map z0d a0.f_s.Procs)),.row 1,.row 2,.row 3,.row 4,.pv (.int .i64 a0.f_proc),.pv (.sl (List.map z09 a0.f_vars)),.pv (.int .i64 r.f_e)],oT true none 69 6 (List.map z04 r.f_p.Chans),oR false 78 2 (List.map z0b a0.f_p.Procs),oR true 9 1 (List.map z09 r.f_chans),oR false 9 1 (List.map z09 a0.f_procs)]
noncomputable def zhw (a0:z01) (r:z01):Tg:=.r false Tryz.f33.results.toList 5 (zai r) (zaj a0 r)
noncomputable def z82 (a0:z01) (a2:ByteArray):Option (z01 × (List ByteArray)) :=
 z3o a0.f_procs a2>>=fun v1 =>
 z14 a0 (!v1) 7>>=fun v2 =>
 app 16 a0.f_procs [a2]>>=fun v3 =>
 some ((z01.mk a0.f_s a0.f_p a0.f_chans [] a0.f_proc a0.f_vars v2.f_e),v3)
def zeq (r:(z01 × (List ByteArray))):List XV:=[xR 4]
def zer (a0:z01) (r:(z01 × (List ByteArray))):z0q:=[oB 117 [.pv (.sl (List.map z0c a0.f_s.Chans)),.pv (.sl (List.map z0e a0.f_s.Rules)),.pv (.sl (List.map z0d a0.f_s.Procs)),.row 1,.row 2,.row 3,.any,.pv (.int .i64 a0.f_proc),.pv (.sl (List.map z09 a0.f_vars)),.pv (.int .i64 r.1.f_e)],oT false none 69 6 (List.map z04 a0.f_p.Chans),oR false 78 2 (List.map z0b a0.f_p.Procs),oR false 9 1 (List.map z09 a0.f_chans),oR true 9 1 (List.map z09 r.2)]
noncomputable def z77 (a0:z01) (a2:ByteArray):Option (z01 × Int) :=
 z3n a0.f_procs a2>>=fun v1 =>
 z14 a0 (decide (v1≥0)) 8>>=fun v2 =>
 some ((z01.mk a0.f_s a0.f_p a0.f_chans a0.f_procs a0.f_proc a0.f_vars v2.f_e),(max v1 0))
def zbr (r:(z01 × Int)):List XV:=[xI r.2]
def zbs (a0:z01) (r:(z01 × Int)):z0q:=[oB 117 [.pv (.sl (List.map z0c a0.f_s.Chans)),.pv (.sl (List.map z0e a0.f_s.Rules)),.pv (.sl (List.map z0d a0.f_s.Procs)),.row 1,.row 2,.row 3,.row 4,.pv (.int .i64 a0.f_proc),.pv (.sl (List.map z09 a0.f_vars)),.pv (.int .i64 r.1.f_e)],oT false none 69 6 (List.map z04 a0.f_p.Chans),oR false 78 2 (List.map z0b a0.f_p.Procs),oR false 9 1 (List.map z09 a0.f_chans),oR false 9 1 (List.map z09 a0.f_procs)]
noncomputable def z78 (a0:z01) (x2:(Int × Int × (List ByteArray))):Option (Sum (Int × Int × (List ByteArray)) (Sum z01 (Int × (List ByteArray)))) :=
 if (decide (x2.1<(a0.f_s.Procs.length:Int))) then (idx a0.f_s.Procs x2.1>>=fun v3 =>
 z82 (z01.mk a0.f_s a0.f_p a0.f_chans x2.2.2 a0.f_proc a0.f_vars x2.2.1) v3.Name>>=fun v4 =>
 some (.inl ((IntKind.i64.wrap (x2.1+1)),v4.1.f_e,v4.2)))
 else (some (.inr (.inr (x2.2.1,x2.2.2))))
noncomputable def z79 (a0:z01) (j2:(Int × (List ByteArray))) (x3:(Int × Int × (List z0a))):Option (Sum (Int × Int × (List z0a)) (Sum z01 (Int × (List z0a)))) :=
 if (decide (x3.1<(a0.f_s.Chans.length:Int))) then (idx a0.f_s.Chans x3.1>>=fun v5 =>
 idx x3.2.2 x3.1>>=fun v6 =>
 z77 (z01.mk a0.f_s (z18.mk x3.2.2 a0.f_p.Procs) a0.f_chans j2.2 a0.f_proc a0.f_vars x3.2.1) v5.From>>=fun v7 =>
 z77 (z01.mk a0.f_s (z18.mk (seti x3.2.2 x3.1 (z0a.mk v6.Kind v6.Size v7.2 v6.To v6.Tags v6.Rule)) a0.f_p.Procs) a0.f_chans j2.2 a0.f_proc a0.f_vars v7.1.f_e) v5.To>>=fun v8 =>
 idx (seti x3.2.2 x3.1 (z0a.mk v6.Kind v6.Size v7.2 v6.To v6.Tags v6.Rule)) x3.1>>=fun v9 =>
 idx (seti (seti x3.2.2 x3.1 (z0a.mk v6.Kind v6.Size v7.2 v6.To v6.Tags v6.Rule)) x3.1 (z0a.mk v9.Kind v9.Size v9.From v8.2 v9.Tags v9.Rule)) x3.1>>=fun v10 =>
 z14 (z01.mk a0.f_s (z18.mk (seti (seti x3.2.2 x3.1 (z0a.mk v6.Kind v6.Size v7.2 v6.To v6.Tags v6.Rule)) x3.1 (z0a.mk v9.Kind v9.Size v9.From v8.2 v9.Tags v9.Rule)) a0.f_p.Procs) a0.f_chans j2.2 a0.f_proc a0.f_vars v8.1.f_e) (v10.From != v10.To) 9>>=fun v11 =>
 some (.inl ((IntKind.i64.wrap (x3.1+1)),v11.f_e,(seti (seti x3.2.2 x3.1 (z0a.mk v6.Kind v6.Size v7.2 v6.To v6.Tags v6.Rule)) x3.1 (z0a.mk v9.Kind v9.Size v9.From v8.2 v9.Tags v9.Rule)))))
 else (some (.inr (.inr (x3.2.1,x3.2.2))))
noncomputable def z9y (a0:z01):Option z01 :=
 ((if (decide ((a0.f_s.Procs.length:Int)≥1)) then (z14 a0 (decide ((a0.f_s.Procs.length:Int)≤4)) 10>>=fun v1 =>
 some v1.f_e)
 else (z14 a0 false 10>>=fun v2 =>
 some v2.f_e):Option Int)>>=fun j1 =>
 iter (z78 a0) (0,j1,a0.f_procs)>>=Sum.elim (fun _=>none) (fun j2 =>
 iter (z79 a0 j2) (0,j2.1,a0.f_p.Chans)>>=Sum.elim (fun _=>none) (fun j3 =>
 some (z01.mk a0.f_s (z18.mk j3.2 a0.f_p.Procs) a0.f_chans j2.2 a0.f_proc a0.f_vars j3.1))))
def zck (r:z01):List XV:=[]
def zcl (a0:z01) (r:z01):z0q:=[oB 117 [.pv (.sl (List.map z0c a0.f_s.Chans)),.pv (.sl (List.map z0e a0.f_s.Rules)),.pv (.sl (List.map z0d a0.f_s.Procs)),.row 1,.row 2,.row 3,.row 4,.pv (.int .i64 a0.f_proc),.pv (.sl (List.map z09 a0.f_vars)),.pv (.int .i64 r.f_e)],oT false none 69 6 (List.map z04 r.f_p.Chans),oR false 78 2 (List.map z0b a0.f_p.Procs),oR false 9 1 (List.map z09 a0.f_chans),oR true 9 1 (List.map z09 r.f_procs)]
noncomputable def zfh (a0:z01) (r:z01):Tg:=.r false Tryz.f34.results.toList 5 (zck r) (zcl a0 r)
noncomputable def z7a (a0:z01) (a2:ByteArray):Option (z01 × Int) :=
 z3n a0.f_chans a2>>=fun v1 =>
 z14 a0 (decide (v1≥0)) 8>>=fun v2 =>
 some ((z01.mk a0.f_s a0.f_p a0.f_chans a0.f_procs a0.f_proc a0.f_vars v2.f_e),(max v1 0))
def z8r (r:(z01 × Int)):List XV:=[xI r.2]
def z8s (a0:z01) (r:(z01 × Int)):z0q:=[oB 117 [.pv (.sl (List.map z0c a0.f_s.Chans)),.pv (.sl (List.map z0e a0.f_s.Rules)),.pv (.sl (List.map z0d a0.f_s.Procs)),.row 1,.row 2,.row 3,.row 4,.pv (.int .i64 a0.f_proc),.pv (.sl (List.map z09 a0.f_vars)),.pv (.int .i64 r.1.f_e)],oT false none 69 6 (List.map z04 a0.f_p.Chans),oR false 78 2 (List.map z0b a0.f_p.Procs),oR false 9 1 (List.map z09 a0.f_chans),oR false 9 1 (List.map z09 a0.f_procs)]
noncomputable def bits_Mul64 (a0:Int) (a1:Int):Option (Int × Int) :=
 shr .u64 a0 32>>=fun v1 =>
 shr .u64 a1 32>>=fun v2 =>
 shr .u64 (IntKind.u64.wrap ((IntKind.u64.wrap (BitVec.ofInt IntKind.u64.bits a0 &&& BitVec.ofInt IntKind.u64.bits 4294967295).toNat)*(IntKind.u64.wrap (BitVec.ofInt IntKind.u64.bits a1 &&& BitVec.ofInt IntKind.u64.bits 4294967295).toNat))) 32>>=fun v3 =>
 shr .u64 (IntKind.u64.wrap ((IntKind.u64.wrap (v1*(IntKind.u64.wrap (BitVec.ofInt IntKind.u64.bits a1 &&& BitVec.ofInt IntKind.u64.bits 4294967295).toNat)))+v3)) 32>>=fun v4 =>
 shr .u64 (IntKind.u64.wrap ((IntKind.u64.wrap (BitVec.ofInt IntKind.u64.bits (IntKind.u64.wrap ((IntKind.u64.wrap (v1*(IntKind.u64.wrap (BitVec.ofInt IntKind.u64.bits a1 &&& BitVec.ofInt IntKind.u64.bits 4294967295).toNat)))+v3)) &&& BitVec.ofInt IntKind.u64.bits 4294967295).toNat)+(IntKind.u64.wrap ((IntKind.u64.wrap (BitVec.ofInt IntKind.u64.bits a0 &&& BitVec.ofInt IntKind.u64.bits 4294967295).toNat)*v2)))) 32>>=fun v5 =>
 some ((IntKind.u64.wrap ((IntKind.u64.wrap ((IntKind.u64.wrap (v1*v2))+v4))+v5)),(IntKind.u64.wrap (a0*a1)))
def zhx (r:(Int × Int)):List XV:=[.c (.pv (.int .u64 r.1)),.c (.pv (.int .u64 r.2))]
def zrc (r:(Int × Int)):z0q:=[]
noncomputable def bits_Mul (a0:Int) (a1:Int):Option (Int × Int) :=
 bits_Mul64 a0 a1>>=fun v1 =>
 some (v1.1,v1.2)
def zly (r:(Int × Int)):List XV:=[.c (.pv (.int .u64 r.1)),.c (.pv (.int .u64 r.2))]
def zws (r:(Int × Int)):z0q:=[]
noncomputable def z42 (x2:(Int × (List Int))):Option (Sum (Int × (List Int)) (Sum (List Int) (List Int))) :=
 if (decide (x2.1<(x2.2.length:Int))) then (psub (List.length x2.2) x2.1 (x2.2.length:Int)>>=fun v3 =>
 psub (List.length x2.2) 0 x2.1>>=fun v4 =>
 some (.inl ((IntKind.i64.wrap (x2.1+(min ((v4.2:Nat):Int) ((v3.2:Nat):Int)))),(pcp x2.2 v3.1 v4.1 (min v4.2 v3.2)))))
 else (some (.inr (.inr x2.2)))
noncomputable def z6z (a0:(List Int)) (a1:Int):Option (List Int) :=
 if (decide (a1<0)) then (none)
 else (bits_Mul (IntKind.u64.wrap (a0.length:Int)) (IntKind.u64.wrap a1)>>=fun v1 =>
 ((if (decide (v1.1 > 0)) then (some true)
 else (some (decide (v1.2 > 9223372036854775807))):Option Bool)>>=fun j1 =>
 if j1 then (none)
 else (mkN 8 (IntKind.i64.wrap v1.2)>>=fun v2 =>
 iter (z42) ((min (a0.length:Int) ((List.replicate v2 (0:Int)).length:Int)),(cpy (List.replicate v2 (0:Int)) a0))>>=Sum.elim (fun _=>none) (fun j2 =>
 some j2))))
def z9f (r:(List Int)):List XV:=[xR 0]
def z9g (r:(List Int)):z0q:=[oR true 3 1 (List.map z71 r)]
noncomputable def zgg (r:(List Int)):Tg:=.r false Tryz.f118.results.toList 0 (z9f r) (z9g r)
noncomputable def z9h (a1:Int) (a2:Int) (x1:(List (List Int))):Option (Sum (List (List Int)) (Sum ((List (List Int)) × (List (List Int))) (List (List Int)))) :=
 if (decide ((x1.length:Int)≤a1)) then (z6z [(-1)] a2>>=fun v1 =>
 app 24 x1 [v1]>>=fun v2 =>
 some (.inl v2))
 else (some (.inr (.inr x1)))
noncomputable def zc8 (a0:(List (List Int))) (a1:Int) (a2:Int):Option ((List (List Int)) × (List (List Int))) :=
 iter (z9h a1 a2) a0>>=Sum.elim (fun _=>none) (fun j1 =>
 some (j1,j1))
def zdc (r:((List (List Int)) × (List (List Int)))):List XV:=[xR 0]
def zdd (r:((List (List Int)) × (List (List Int)))):z0q:=[oT true none 40 1 (List.map z5f r.1)]
noncomputable def zoe (r:((List (List Int)) × (List (List Int)))):Tg:=.r false Tryz.f74.results.toList 1 (zdc r) (zdd r)
noncomputable def z2o (a0:z01) (a1:(List ByteArray)) (a2:ByteArray):Option (z01 × Int) :=
 z3n a1 a2>>=fun v1 =>
 z14 a0 (decide (v1≥0)) 8>>=fun v2 =>
 some ((z01.mk a0.f_s a0.f_p a0.f_chans a0.f_procs a0.f_proc a0.f_vars v2.f_e),(max v1 0))
def z54 (r:(z01 × Int)):List XV:=[xI r.2]
def z55 (a0:z01) (r:(z01 × Int)):z0q:=[oB 117 [.pv (.sl (List.map z0c a0.f_s.Chans)),.pv (.sl (List.map z0e a0.f_s.Rules)),.pv (.sl (List.map z0d a0.f_s.Procs)),.row 1,.row 2,.row 3,.row 4,.pv (.int .i64 a0.f_proc),.pv (.sl (List.map z09 a0.f_vars)),.pv (.int .i64 r.1.f_e)],oT false none 69 6 (List.map z04 a0.f_p.Chans),oR false 78 2 (List.map z0b a0.f_p.Procs),oR false 9 1 (List.map z09 a0.f_chans),oR false 9 1 (List.map z09 a0.f_procs)]
noncomputable def z8k (a0:z01) (a1:Int) (a2:z5d):Option z01 :=
 idx a0.f_s.Chans a1>>=fun v1 =>
 z2o a0 v1.Tags a2.Tag>>=fun v2 =>
 ((if (decide (a2.From<8)) then (z14 (z01.mk a0.f_s a0.f_p a0.f_chans a0.f_procs a0.f_proc a0.f_vars v2.1.f_e) (decide (a2.To<8)) 11>>=fun v3 =>
 some v3.f_e)
 else (z14 (z01.mk a0.f_s a0.f_p a0.f_chans a0.f_procs a0.f_proc a0.f_vars v2.1.f_e) false 11>>=fun v4 =>
 some v4.f_e):Option Int)>>=fun j1 =>
 if (j1 != 0) then (some (z01.mk a0.f_s a0.f_p a0.f_chans a0.f_procs a0.f_proc a0.f_vars j1))
 else (idx a0.f_p.Chans a1>>=fun v5 =>
 zc8 v5.Rule (max a2.From a2.To) v5.Tags>>=fun v6 =>
 idx (seti a0.f_p.Chans a1 (z0a.mk v5.Kind v5.Size v5.From v5.To v5.Tags v6.1)) a1>>=fun v7 =>
 idx v7.Rule a2.From>>=fun v8 =>
 idx v8 v2.2>>=fun v9 =>
 z14 (z01.mk a0.f_s (z18.mk (seti (seti a0.f_p.Chans a1 (z0a.mk v5.Kind v5.Size v5.From v5.To v5.Tags v6.1)) a1 (z0a.mk v7.Kind v7.Size v7.From v7.To v7.Tags (seti v7.Rule a2.From v8))) a0.f_p.Procs) a0.f_chans a0.f_procs a0.f_proc a0.f_vars j1) (v9==(-1)) 7>>=fun v10 =>
 idx (seti (seti a0.f_p.Chans a1 (z0a.mk v5.Kind v5.Size v5.From v5.To v5.Tags v6.1)) a1 (z0a.mk v7.Kind v7.Size v7.From v7.To v7.Tags (seti v7.Rule a2.From v8))) a1>>=fun v11 =>
 idx v11.Rule a2.From>>=fun v12 =>
 idx v12 v2.2>>=fun v13 =>
 some (z01.mk a0.f_s (z18.mk (seti (seti (seti a0.f_p.Chans a1 (z0a.mk v5.Kind v5.Size v5.From v5.To v5.Tags v6.1)) a1 (z0a.mk v7.Kind v7.Size v7.From v7.To v7.Tags (seti v7.Rule a2.From v8))) a1 (z0a.mk v11.Kind v11.Size v11.From v11.To v11.Tags (seti v11.Rule a2.From (seti v12 v2.2 a2.To)))) a0.f_p.Procs) a0.f_chans a0.f_procs a0.f_proc a0.f_vars v10.f_e)))
def zfi (r:z01):List XV:=[]
def zfj (a0:z01) (r:z01):z0q:=[oB 117 [.pv (.sl (List.map z0c a0.f_s.Chans)),.pv (.sl (List.map z0e a0.f_s.Rules)),.pv (.sl (List.map z0d a0.f_s.Procs)),.row 1,.row 2,.row 3,.row 4,.pv (.int .i64 a0.f_proc),.pv (.sl (List.map z09 a0.f_vars)),.pv (.int .i64 r.f_e)],oT false none 69 6 (List.map z04 r.f_p.Chans),oR false 78 2 (List.map z0b a0.f_p.Procs),oR false 9 1 (List.map z09 a0.f_chans),oR false 9 1 (List.map z09 a0.f_procs)]
noncomputable def z7b (a0:z01) (a1:z3e) (v1:(z01 × Int)) (x1:(Int × Int × (List z0a))):Option (Sum (Int × Int × (List z0a)) (Sum z01 (Int × (List z0a)))) :=
 if (decide (x1.1<(a1.Moves.length:Int))) then (idx a1.Moves x1.1>>=fun v6 =>
 z8k (z01.mk a0.f_s (z18.mk x1.2.2 a0.f_p.Procs) a0.f_chans a0.f_procs a0.f_proc a0.f_vars x1.2.1) v1.2 v6>>=fun v7 =>
 some (.inl ((IntKind.i64.wrap (x1.1+1)),v7.f_e,v7.f_p.Chans)))
 else (some (.inr (.inr (x1.2.1,x1.2.2))))
noncomputable def z8l (a0:z01) (a1:z3e):Option z01 :=
 z7a a0 a1.Chan>>=fun v1 =>
 if (v1.1.f_e != 0) then (some (z01.mk a0.f_s a0.f_p a0.f_chans a0.f_procs a0.f_proc a0.f_vars v1.1.f_e))
 else (idx a0.f_p.Chans v1.2>>=fun v2 =>
 z14 (z01.mk a0.f_s (z18.mk (seti a0.f_p.Chans v1.2 v2) a0.f_p.Procs) a0.f_chans a0.f_procs a0.f_proc a0.f_vars v1.1.f_e) ((v2.Rule.length:Int)==0) 7>>=fun v3 =>
 idx (seti a0.f_p.Chans v1.2 v2) v1.2>>=fun v4 =>
 zc8 v4.Rule 0 v4.Tags>>=fun v5 =>
 iter (z7b a0 a1 v1) (0,v3.f_e,(seti (seti a0.f_p.Chans v1.2 v2) v1.2 (z0a.mk v4.Kind v4.Size v4.From v4.To v4.Tags v5.1)))>>=Sum.elim (fun _=>none) (fun j1 =>
 some (z01.mk a0.f_s (z18.mk j1.2 a0.f_p.Procs) a0.f_chans a0.f_procs a0.f_proc a0.f_vars j1.1)))
def zcm (r:z01):List XV:=[]
def zcn (a0:z01) (r:z01):z0q:=[oB 117 [.pv (.sl (List.map z0c a0.f_s.Chans)),.pv (.sl (List.map z0e a0.f_s.Rules)),.pv (.sl (List.map z0d a0.f_s.Procs)),.row 1,.row 2,.row 3,.row 4,.pv (.int .i64 a0.f_proc),.pv (.sl (List.map z09 a0.f_vars)),.pv (.int .i64 r.f_e)],oT false none 69 6 (List.map z04 r.f_p.Chans),oR false 78 2 (List.map z0b a0.f_p.Procs),oR false 9 1 (List.map z09 a0.f_chans),oR false 9 1 (List.map z09 a0.f_procs)]
noncomputable def zkk (a0:z01) (r:z01):Tg:=.r false Tryz.f35.results.toList 5 (zcm r) (zcn a0 r)
noncomputable def z59 (F_check_maker_expr:z01→z06→Option (z01 × z0v)) (a0:z01) (a1:z06) (x1:(Int × Int × (List z0v))):Option (Sum (Int × Int × (List z0v)) (Sum (z01 × z0v) (Int × (List z0v)))) :=
 if (decide (x1.1<(a1.Kids.length:Int))) then (idx a1.Kids x1.1>>=fun v1 =>
 F_check_maker_expr (z01.mk a0.f_s a0.f_p a0.f_chans a0.f_procs a0.f_proc a0.f_vars x1.2.1) v1>>=fun v2 =>
 app 48 x1.2.2 [v2.2]>>=fun v3 =>
 some (.inl ((IntKind.i64.wrap (x1.1+1)),v2.1.f_e,v3)))
 else (some (.inr (.inr (x1.2.1,x1.2.2))))
noncomputable def z9p (F_check_maker_expr:z01→z06→Option (z01 × z0v)) (a0:z01) (a1:z06) (x2:(Int × Int × (List z0v))):Option (Sum (Int × Int × (List z0v)) (Sum (z01 × z0v) (Int × (List z0v)))) :=
 if (decide (x2.1<(a1.Kids.length:Int))) then (idx a1.Kids x2.1>>=fun v5 =>
 F_check_maker_expr (z01.mk a0.f_s a0.f_p a0.f_chans a0.f_procs a0.f_proc a0.f_vars x2.2.1) v5>>=fun v6 =>
 app 48 x2.2.2 [v6.2]>>=fun v7 =>
 some (.inl ((IntKind.i64.wrap (x2.1+1)),v6.1.f_e,v7)))
 else (some (.inr (.inr (x2.2.1,x2.2.2))))
noncomputable def z9q (F_check_maker_expr:z01→z06→Option (z01 × z0v)) (a0:z01) (a1:z06) (x3:(Int × Int × (List z0v))):Option (Sum (Int × Int × (List z0v)) (Sum (z01 × z0v) (Int × (List z0v)))) :=
 if (decide (x3.1<(a1.Kids.length:Int))) then (idx a1.Kids x3.1>>=fun v8 =>
 F_check_maker_expr (z01.mk a0.f_s a0.f_p a0.f_chans a0.f_procs a0.f_proc a0.f_vars x3.2.1) v8>>=fun v9 =>
 app 48 x3.2.2 [v9.2]>>=fun v10 =>
 some (.inl ((IntKind.i64.wrap (x3.1+1)),v9.1.f_e,v10)))
 else (some (.inr (.inr (x3.2.1,x3.2.2))))
def z4a (r:(z01 × z0v)):List XV:=[.agg (bs (z6v r.2))]
def z4b (a0:z01) (r:(z01 × z0v)):z0q:=[oB 117 [.pv (.sl (List.map z0c a0.f_s.Chans)),.pv (.sl (List.map z0e a0.f_s.Rules)),.pv (.sl (List.map z0d a0.f_s.Procs)),.row 1,.row 2,.row 3,.row 4,.pv (.int .i64 a0.f_proc),.pv (.sl (List.map z09 a0.f_vars)),.pv (.int .i64 r.1.f_e)],oT false none 69 6 (List.map z04 a0.f_p.Chans),oR false 78 2 (List.map z0b a0.f_p.Procs),oR false 9 1 (List.map z09 a0.f_chans),oR false 9 1 (List.map z09 a0.f_procs)]
noncomputable def zco (a0:z01) (r:(z01 × z0v)):Tg:=.r false Tryz.f145.results.toList 5 (z4a r) (z4b a0 r)
noncomputable def z2p:Nat→z01→z06→Option (z01 × z0v)
  | 0,_,_=>none
  | n+1,a0,a1=>if (a1.Kind==1) then (iter (z59 (z2p n) a0 a1) (0,a0.f_e,[])>>=Sum.elim (fun _=>none) (fun j1 =>
 some ((z01.mk a0.f_s a0.f_p a0.f_chans a0.f_procs a0.f_proc a0.f_vars j1.1),(z0v.mk a1.Kind a1.Num 0 j1.2))))
 else (if (a1.Kind==2) then (z2o a0 a0.f_vars a1.Name>>=fun v4 =>
 iter (z9p (z2p n) a0 a1) (0,v4.1.f_e,[])>>=Sum.elim (fun _=>none) (fun j2 =>
 some ((z01.mk a0.f_s a0.f_p a0.f_chans a0.f_procs a0.f_proc a0.f_vars j2.1),(z0v.mk a1.Kind 0 v4.2 j2.2))))
 else (iter (z9q (z2p n) a0 a1) (0,a0.f_e,[])>>=Sum.elim (fun _=>none) (fun j3 =>
 some ((z01.mk a0.f_s a0.f_p a0.f_chans a0.f_procs a0.f_proc a0.f_vars j3.1),(z0v.mk a1.Kind 0 0 j3.2)))))
noncomputable def z66 (a0:z01) (a1:z06):Option (z01 × z0v):=unf fun n=>z2p n a0 a1
noncomputable def z5v (a0:z01) (a1:z4j):Option (z01 × z5w) :=
 z66 a0 a1.L>>=fun v1 =>
 z66 (z01.mk a0.f_s a0.f_p a0.f_chans a0.f_procs a0.f_proc a0.f_vars v1.1.f_e) a1.R>>=fun v2 =>
 some ((z01.mk a0.f_s a0.f_p a0.f_chans a0.f_procs a0.f_proc a0.f_vars v2.1.f_e),(z5w.mk a1.Op v1.2 v2.2))
def za5 (r:(z01 × z5w)):List XV:=[.agg (bs (zdg r.2))]
def za6 (a0:z01) (r:(z01 × z5w)):z0q:=[oB 117 [.pv (.sl (List.map z0c a0.f_s.Chans)),.pv (.sl (List.map z0e a0.f_s.Rules)),.pv (.sl (List.map z0d a0.f_s.Procs)),.row 1,.row 2,.row 3,.row 4,.pv (.int .i64 a0.f_proc),.pv (.sl (List.map z09 a0.f_vars)),.pv (.int .i64 r.1.f_e)],oT false none 69 6 (List.map z04 a0.f_p.Chans),oR false 78 2 (List.map z0b a0.f_p.Procs),oR false 9 1 (List.map z09 a0.f_chans),oR false 9 1 (List.map z09 a0.f_procs)]
noncomputable def zlz (a0:z0a):Option Int :=
 some a0.From
def zhy (r:Int):List XV:=[xI r]
def zrd (r:Int):z0q:=[]
noncomputable def z4k (a0:z01) (a1:ByteArray):Option (z01 × Int × (List ByteArray)) :=
 z7a a0 a1>>=fun v1 =>
 if (v1.1.f_e != 0) then (some ((z01.mk a0.f_s a0.f_p a0.f_chans a0.f_procs a0.f_proc a0.f_vars v1.1.f_e),0,[]))
 else (idx a0.f_p.Chans v1.2>>=fun v2 =>
 zlz (z0a.mk v2.Kind v2.Size v2.From v2.To v2.Tags [])>>=fun v3 =>
 z14 (z01.mk a0.f_s a0.f_p a0.f_chans a0.f_procs a0.f_proc a0.f_vars v1.1.f_e) (v3==a0.f_proc) 9>>=fun v4 =>
 idx a0.f_s.Chans v1.2>>=fun v5 =>
 some ((z01.mk a0.f_s a0.f_p a0.f_chans a0.f_procs a0.f_proc a0.f_vars v4.f_e),v1.2,v5.Tags))
def z96 (r:(z01 × Int × (List ByteArray))):List XV:=[xI r.2.1,xL (List.map z09 r.2.2)]
def z97 (a0:z01) (r:(z01 × Int × (List ByteArray))):z0q:=[oB 117 [.pv (.sl (List.map z0c a0.f_s.Chans)),.pv (.sl (List.map z0e a0.f_s.Rules)),.pv (.sl (List.map z0d a0.f_s.Procs)),.row 1,.row 2,.row 3,.row 4,.pv (.int .i64 a0.f_proc),.pv (.sl (List.map z09 a0.f_vars)),.pv (.int .i64 r.1.f_e)],oT false none 69 6 (List.map z04 a0.f_p.Chans),oR false 78 2 (List.map z0b a0.f_p.Procs),oR false 9 1 (List.map z09 a0.f_chans),oR false 9 1 (List.map z09 a0.f_procs)]
noncomputable def zbl (a0:z01) (a1:z05):Option (z01 × z0h) :=
 z4k a0 a1.Name>>=fun v1 =>
 z2o (z01.mk a0.f_s a0.f_p a0.f_chans a0.f_procs a0.f_proc a0.f_vars v1.1.f_e) v1.2.2 a1.Tag>>=fun v2 =>
 z66 (z01.mk a0.f_s a0.f_p a0.f_chans a0.f_procs a0.f_proc a0.f_vars v2.1.f_e) a1.E>>=fun v3 =>
 some ((z01.mk a0.f_s a0.f_p a0.f_chans a0.f_procs a0.f_proc a0.f_vars v3.1.f_e),(z0h.mk a1.Kind 0 v1.2.1 v2.2 v3.2 (z5w.mk 0 (z0v.mk 0 0 0 []) (z0v.mk 0 0 0 [])) [] [] []))
def zfk (r:(z01 × z0h)):List XV:=[.agg (bs (z7i r.2))]
def zfl (a0:z01) (r:(z01 × z0h)):z0q:=[oB 117 [.pv (.sl (List.map z0c a0.f_s.Chans)),.pv (.sl (List.map z0e a0.f_s.Rules)),.pv (.sl (List.map z0d a0.f_s.Procs)),.row 1,.row 2,.row 3,.row 4,.pv (.int .i64 a0.f_proc),.pv (.sl (List.map z09 a0.f_vars)),.pv (.int .i64 r.1.f_e)],oT false none 69 6 (List.map z04 a0.f_p.Chans),oR false 78 2 (List.map z0b a0.f_p.Procs),oR false 9 1 (List.map z09 a0.f_chans),oR false 9 1 (List.map z09 a0.f_procs)]
noncomputable def zpv (a0:z0a):Option Int :=
 some a0.To
def zm0 (r:Int):List XV:=[xI r]
def zwt (r:Int):z0q:=[]
noncomputable def z4v (a0:z01) (a1:ByteArray):Option (z01 × Int × (List ByteArray)) :=
 z7a a0 a1>>=fun v1 =>
 if (v1.1.f_e != 0) then (some ((z01.mk a0.f_s a0.f_p a0.f_chans a0.f_procs a0.f_proc a0.f_vars v1.1.f_e),0,[]))
 else (idx a0.f_p.Chans v1.2>>=fun v2 =>
 zpv (z0a.mk v2.Kind v2.Size v2.From v2.To v2.Tags [])>>=fun v3 =>
 z14 (z01.mk a0.f_s a0.f_p a0.f_chans a0.f_procs a0.f_proc a0.f_vars v1.1.f_e) (v3==a0.f_proc) 9>>=fun v4 =>
 idx a0.f_s.Chans v1.2>>=fun v5 =>
 some ((z01.mk a0.f_s a0.f_p a0.f_chans a0.f_procs a0.f_proc a0.f_vars v4.f_e),v1.2,v5.Tags))
def z9k (r:(z01 × Int × (List ByteArray))):List XV:=[xI r.2.1,xL (List.map z09 r.2.2)]
def z9l (a0:z01) (r:(z01 × Int × (List ByteArray))):z0q:=[oB 117 [.pv (.sl (List.map z0c a0.f_s.Chans)),.pv (.sl (List.map z0e a0.f_s.Rules)),.pv (.sl (List.map z0d a0.f_s.Procs)),.row 1,.row 2,.row 3,.row 4,.pv (.int .i64 a0.f_proc),.pv (.sl (List.map z09 a0.f_vars)),.pv (.int .i64 r.1.f_e)],oT false none 69 6 (List.map z04 a0.f_p.Chans),oR false 78 2 (List.map z0b a0.f_p.Procs),oR false 9 1 (List.map z09 a0.f_chans),oR false 9 1 (List.map z09 a0.f_procs)]
noncomputable def z60 (F_check_maker_stmts:z01→(List z05)→Option (z01 × (List z0h))) (F_check_maker_stmt:z01→z05→Option (z01 × z0h)) (F_check_maker_recv:z01→z05→Option (z01 × z0h)) (a0:z01) (a1:(List z05)) (x1:(Int × Int × (List z0h))):Option (Sum (Int × Int × (List z0h)) (Sum (z01 × (List z0h)) (Int × (List z0h)))) :=
 if (decide (x1.1<(a1.length:Int))) then (idx a1 x1.1>>=fun v1 =>
 if (x1.2.1 != 0) then (some (.inr (.inr (x1.2.1,x1.2.2))))
 else (F_check_maker_stmt (z01.mk a0.f_s a0.f_p a0.f_chans a0.f_procs a0.f_proc a0.f_vars x1.2.1) v1>>=fun v2 =>
 app 256 x1.2.2 [v2.2]>>=fun v3 =>
 some (.inl ((IntKind.i64.wrap (x1.1+1)),v2.1.f_e,v3))))
 else (some (.inr (.inr (x1.2.1,x1.2.2))))
def z3w (r:(z01 × (List z0h))):List XV:=[xL (List.map z2l r.2)]
def z3x (a0:z01) (r:(z01 × (List z0h))):z0q:=[oB 117 [.pv (.sl (List.map z0c a0.f_s.Chans)),.pv (.sl (List.map z0e a0.f_s.Rules)),.pv (.sl (List.map z0d a0.f_s.Procs)),.row 1,.row 2,.row 3,.row 4,.pv (.int .i64 a0.f_proc),.pv (.sl (List.map z09 a0.f_vars)),.pv (.int .i64 r.1.f_e)],oT false none 69 6 (List.map z04 a0.f_p.Chans),oR false 78 2 (List.map z0b a0.f_p.Procs),oR false 9 1 (List.map z09 a0.f_chans),oR false 9 1 (List.map z09 a0.f_procs)]
noncomputable def zjm (a0:z01) (r:(z01 × (List z0h))):Tg:=.r false Tryz.f76.results.toList 5 (z3w r) (z3x a0 r)
def z7o (r:(z01 × z0h)):List XV:=[.agg (bs (z7i r.2))]
def z7p (a0:z01) (r:(z01 × z0h)):z0q:=[oB 117 [.pv (.sl (List.map z0c a0.f_s.Chans)),.pv (.sl (List.map z0e a0.f_s.Rules)),.pv (.sl (List.map z0d a0.f_s.Procs)),.row 1,.row 2,.row 3,.row 4,.pv (.int .i64 a0.f_proc),.pv (.sl (List.map z09 a0.f_vars)),.pv (.int .i64 r.1.f_e)],oT false none 69 6 (List.map z04 a0.f_p.Chans),oR false 78 2 (List.map z0b a0.f_p.Procs),oR false 9 1 (List.map z09 a0.f_chans),oR false 9 1 (List.map z09 a0.f_procs)]
noncomputable def z7c (F_check_maker_stmts:z01→(List z05)→Option (z01 × (List z0h))) (F_check_maker_stmt:z01→z05→Option (z01 × z0h)) (F_check_maker_recv:z01→z05→Option (z01 × z0h)) (a0:z01) (a1:z05) (v1:(z01 × Int × (List ByteArray))) (x1:(Int × Int × (List ByteArray) × (List z3z))):Option (Sum (Int × Int × (List ByteArray) × (List z3z)) (Sum (z01 × z0h) (Int × (List z3z)))) :=
 if (decide (x1.1<(a1.Arms.length:Int))) then (idx a1.Arms x1.1>>=fun v2 =>
 z2o (z01.mk a0.f_s a0.f_p a0.f_chans a0.f_procs a0.f_proc a0.f_vars x1.2.1) v1.2.2 v2.Tag>>=fun v3 =>
 z6e (z01.mk a0.f_s a0.f_p a0.f_chans a0.f_procs a0.f_proc a0.f_vars v3.1.f_e) x1.2.2.1 v2.Tag>>=fun v4 =>
 z2o (z01.mk a0.f_s a0.f_p a0.f_chans a0.f_procs a0.f_proc a0.f_vars v4.1.f_e) a0.f_vars v2.Var>>=fun v5 =>
 F_check_maker_stmts (z01.mk a0.f_s a0.f_p a0.f_chans a0.f_procs a0.f_proc a0.f_vars v5.1.f_e) v2.Body>>=fun v6 =>
 app 40 x1.2.2.2 [(z3z.mk v3.2 v5.2 v6.2)]>>=fun v7 =>
 some (.inl ((IntKind.i64.wrap (x1.1+1)),v6.1.f_e,v4.2.1,v7)))
 else (some (.inr (.inr (x1.2.1,x1.2.2.2))))
def z6m (r:(z01 × z0h)):List XV:=[.agg (bs (z7i r.2))]
def z6n (a0:z01) (r:(z01 × z0h)):z0q:=[oB 117 [.pv (.sl (List.map z0c a0.f_s.Chans)),.pv (.sl (List.map z0e a0.f_s.Rules)),.pv (.sl (List.map z0d a0.f_s.Procs)),.row 1,.row 2,.row 3,.row 4,.pv (.int .i64 a0.f_proc),.pv (.sl (List.map z09 a0.f_vars)),.pv (.int .i64 r.1.f_e)],oT false none 69 6 (List.map z04 a0.f_p.Chans),oR false 78 2 (List.map z0b a0.f_p.Procs),oR false 9 1 (List.map z09 a0.f_chans),oR false 9 1 (List.map z09 a0.f_procs)]
noncomputable def zkl (a0:z01) (r:(z01 × z0h)):Tg:=.r false Tryz.f148.results.toList 5 (z6m r) (z6n a0 r)
mutual
noncomputable def z1j:Nat→z01→(List z05)→Option (z01 × (List z0h))
  | 0,_,_=>none
  | n+1,a0,a1=>iter (z60 (z1j n) (z1u n) (z36 n) a0 a1) (0,a0.f_e,[])>>=Sum.elim (fun _=>none) (fun j1 =>
 some ((z01.mk a0.f_s a0.f_p a0.f_chans a0.f_procs a0.f_proc a0.f_vars j1.1),j1.2))
noncomputable def z1u:Nat→z01→z05→Option (z01 × z0h)
  | 0,_,_=>none
  | n+1,a0,a1=>if (a1.Kind==1) then (z2o a0 a0.f_vars a1.Name>>=fun v1 =>
 z66 (z01.mk a0.f_s a0.f_p a0.f_chans a0.f_procs a0.f_proc a0.f_vars v1.1.f_e) a1.E>>=fun v2 =>
 some ((z01.mk a0.f_s a0.f_p a0.f_chans a0.f_procs a0.f_proc a0.f_vars v2.1.f_e),(z0h.mk a1.Kind v1.2 0 0 v2.2 (z5w.mk 0 (z0v.mk 0 0 0 []) (z0v.mk 0 0 0 [])) [] [] [])))
 else (if (a1.Kind==7) then (z2o a0 a0.f_vars a1.Name>>=fun v3 =>
 some ((z01.mk a0.f_s a0.f_p a0.f_chans a0.f_procs a0.f_proc a0.f_vars v3.1.f_e),(z0h.mk a1.Kind v3.2 0 0 (z0v.mk 0 0 0 []) (z5w.mk 0 (z0v.mk 0 0 0 []) (z0v.mk 0 0 0 [])) [] [] [])))
 else (if (a1.Kind==6) then (z5v a0 a1.C>>=fun v4 =>
 some ((z01.mk a0.f_s a0.f_p a0.f_chans a0.f_procs a0.f_proc a0.f_vars v4.1.f_e),(z0h.mk a1.Kind 0 0 0 (z0v.mk 0 0 0 []) v4.2 [] [] [])))
 else (if (a1.Kind==3) then (z5v a0 a1.C>>=fun v5 =>
 (z1j n) (z01.mk a0.f_s a0.f_p a0.f_chans a0.f_procs a0.f_proc a0.f_vars v5.1.f_e) a1.Body>>=fun v6 =>
 some ((z01.mk a0.f_s a0.f_p a0.f_chans a0.f_procs a0.f_proc a0.f_vars v6.1.f_e),(z0h.mk a1.Kind 0 0 0 (z0v.mk 0 0 0 []) v5.2 v6.2 [] [])))
 else (if (a1.Kind==2) then (z5v a0 a1.C>>=fun v7 =>
 (z1j n) (z01.mk a0.f_s a0.f_p a0.f_chans a0.f_procs a0.f_proc a0.f_vars v7.1.f_e) a1.Body>>=fun v8 =>
 (z1j n) (z01.mk a0.f_s a0.f_p a0.f_chans a0.f_procs a0.f_proc a0.f_vars v8.1.f_e) a1.Else>>=fun v9 =>
 some ((z01.mk a0.f_s a0.f_p a0.f_chans a0.f_procs a0.f_proc a0.f_vars v9.1.f_e),(z0h.mk a1.Kind 0 0 0 (z0v.mk 0 0 0 []) v7.2 v8.2 v9.2 [])))
 else (if (a1.Kind==4) then (zbl a0 a1>>=fun v10 =>
 some ((z01.mk a0.f_s a0.f_p a0.f_chans a0.f_procs a0.f_proc a0.f_vars v10.1.f_e),v10.2))
 else (if (a1.Kind==5) then ((z36 n) a0 a1>>=fun v11 =>
 some ((z01.mk a0.f_s a0.f_p a0.f_chans a0.f_procs a0.f_proc a0.f_vars v11.1.f_e),v11.2))
 else (some (a0,(z0h.mk a1.Kind 0 0 0 (z0v.mk 0 0 0 []) (z5w.mk 0 (z0v.mk 0 0 0 []) (z0v.mk 0 0 0 [])) [] [] [])))))))))
noncomputable def z36:Nat→z01→z05→Option (z01 × z0h)
  | 0,_,_=>none
  | n+1,a0,a1=>z4v a0 a1.Name>>=fun v1 =>
 iter (z7c (z1j n) (z1u n) (z36 n) a0 a1 v1) (0,v1.1.f_e,[],[])>>=Sum.elim (fun _=>none) (fun j1 =>
 some ((z01.mk a0.f_s a0.f_p a0.f_chans a0.f_procs a0.f_proc a0.f_vars j1.1),(z0h.mk a1.Kind 0 v1.2.1 0 (z0v.mk 0 0 0 []) (z5w.mk 0 (z0v.mk 0 0 0 []) (z0v.mk 0 0 0 [])) [] [] j1.2)))
end
noncomputable def zax (a0:z01) (a1:(List z05)):Option (z01 × (List z0h)):=unf fun n=>z1j n a0 a1
noncomputable def z8m (a0:z01) (a1:Int) (a2:z3k):Option z01 :=
 z14 a0 (decide ((a2.Vars.length:Int)≤6)) 10>>=fun v1 =>
 z6f (z01.mk a0.f_s a0.f_p a0.f_chans a0.f_procs a0.f_proc a0.f_vars v1.f_e) a2.Vars>>=fun v2 =>
 zax (z01.mk a0.f_s a0.f_p a0.f_chans a0.f_procs a1 a2.Vars v2.f_e) a2.Body>>=fun v3 =>
 app 32 a0.f_p.Procs [(z6r.mk (a2.Vars.length:Int) v3.2)]>>=fun v4 =>
 some (z01.mk a0.f_s (z18.mk a0.f_p.Chans v4) a0.f_chans a0.f_procs a1 a2.Vars v3.1.f_e)
def zfm (r:z01):List XV:=[]
def zfn (a0:z01) (r:z01):z0q:=[oB 117 [.pv (.sl (List.map z0c a0.f_s.Chans)),.pv (.sl (List.map z0e a0.f_s.Rules)),.pv (.sl (List.map z0d a0.f_s.Procs)),.row 1,.row 2,.row 3,.row 4,.pv (.int .i64 r.f_proc),.pv (.sl (List.map z09 r.f_vars)),.pv (.int .i64 r.f_e)],oT false none 69 6 (List.map z04 a0.f_p.Chans),oR true 78 2 (List.map z0b r.f_p.Procs),oR false 9 1 (List.map z09 a0.f_chans),oR false 9 1 (List.map z09 a0.f_procs)]
noncomputable def z8z (a0:z17) (v2:z01) (v3:z01) (x1:(Int × Int × (List z0a))):Option (Sum (Int × Int × (List z0a)) (Sum (z18 × Int) (Int × (List z0a)))) :=
 if (decide (x1.1<(a0.Rules.length:Int))) then (((idx a0.Rules x1.1>>=fun v4 =>
 if (x1.2.1==0) then (z8l (z01.mk a0 (z18.mk x1.2.2 []) v2.f_chans v3.f_procs 0 [] x1.2.1) v4>>=fun v5 =>
 some (v5.f_e,v5.f_p.Chans))
 else (some (x1.2.1,x1.2.2)):Option (Int × (List z0a)))>>=fun j2 =>
 some (.inl ((IntKind.i64.wrap (x1.1+1)),j2.1,j2.2))))
 else (some (.inr (.inr (x1.2.1,x1.2.2))))
noncomputable def z90 (a0:z17) (j1:(Int × (List z0a))) (v2:z01) (v3:z01) (x3:(Int × Int × (List ByteArray) × Int × (List z6r))):Option (Sum (Int × Int × (List ByteArray) × Int × (List z6r)) (Sum (z18 × Int) (Int × (List ByteArray) × Int × (List z6r)))) :=
 if (decide (x3.1<(a0.Procs.length:Int))) then (((idx a0.Procs x3.1>>=fun v6 =>
 if (x3.2.2.2.1==0) then (z8m (z01.mk a0 (z18.mk j1.2 x3.2.2.2.2) v2.f_chans v3.f_procs x3.2.1 x3.2.2.1 x3.2.2.2.1) x3.1 v6>>=fun v7 =>
 some (v7.f_proc,v7.f_vars,v7.f_e,v7.f_p.Procs))
 else (some (x3.2.1,x3.2.2.1,x3.2.2.2.1,x3.2.2.2.2)):Option (Int × (List ByteArray) × Int × (List z6r)))>>=fun j4 =>
 some (.inl ((IntKind.i64.wrap (x3.1+1)),j4.1,j4.2.1,j4.2.2.1,j4.2.2.2))))
 else (some (.inr (.inr (x3.2.1,x3.2.2.1,x3.2.2.2.1,x3.2.2.2.2))))
noncomputable def z91 (a0:z17):Option (z18 × Int) :=
 zcj a0>>=fun v1 =>
 if (!v1) then (some ((z18.mk [] []),5))
 else (z8a (z01.mk a0 (z18.mk [] []) [] [] 0 [] 0)>>=fun v2 =>
 z9y (z01.mk a0 (z18.mk v2.f_p.Chans []) v2.f_chans [] 0 [] v2.f_e)>>=fun v3 =>
 iter (z8z a0 v2 v3) (0,v3.f_e,v3.f_p.Chans)>>=Sum.elim (fun _=>none) (fun j1 =>
 iter (z90 a0 j1 v2 v3) (0,0,[],j1.1,[])>>=Sum.elim (fun _=>none) (fun j3 =>
 if (j3.2.2.1 != 0) then (some ((z18.mk [] []),j3.2.2.1))
 else (some ((z18.mk j1.2 j3.2.2.2),0)))))
def zcp (r:(z18 × Int)):List XV:=[.agg (bs (z7h r.1)),xI r.2]
def zkm (r:(z18 × Int)):z0q:=[]
noncomputable def zkn (r:(z18 × Int)):Tg:=.r false Tryz.f13.results.toList 0 (zcp r) (zkm r)
noncomputable def z3j (a0:z00) (a1:ByteArray):Option Bool :=
 if (a0.f_e==0) then (if (decide ((a0.f_l.length:Int) > 0)) then (idx a0.f_l 0>>=fun v1 =>
 if (decide (v1.Kind≥3)) then (idx a0.f_l 0>>=fun v2 =>
 some (v2.Text.toList==a1.toList))
 else (some false))
 else (some false))
 else (some false)
def z5o (r:Bool):List XV:=[xB r]
def z5p (a0:z00) (r:Bool):z0q:=[oB 138 (bs (z03 a0))]
noncomputable def z0r (a0:z00) (a1:ByteArray):Option (z00 × Bool) :=
 z3j a0 a1>>=fun v1 =>
 if (!v1) then (some (a0,false))
 else (lsub a0.f_l 1 (a0.f_l.length:Int)>>=fun v2 =>
 some ((z00.mk v2 a0.f_end a0.f_e a0.f_at a0.f_deep a0.f_in),true))
def z2s (r:(z00 × Bool)):List XV:=[xB r.2]
def z2t (r:(z00 × Bool)):z0q:=[oB 138 (bs (z03 r.1))]
noncomputable def z6o (a0:z00) (a1:Int):Option Bool :=
 if (a0.f_e==0) then (if (decide ((a0.f_l.length:Int) > 0)) then (idx a0.f_l 0>>=fun v1 =>
 some (v1.Kind==a1))
 else (some false))
 else (some false)
def zay (r:Bool):List XV:=[xB r]
def zaz (a0:z00) (r:Bool):z0q:=[oB 138 (bs (z03 a0))]
noncomputable def z2q (a0:z00) (a1:Int):Option z00 :=
 if (a0.f_e != 0) then (some a0)
 else (if (decide ((a0.f_l.length:Int) > 0)) then (idx a0.f_l 0>>=fun v1 =>
 some (z00.mk a0.f_l a0.f_end a1 v1.At a0.f_deep a0.f_in))
 else (some (z00.mk a0.f_l a0.f_end a1 a0.f_end a0.f_deep a0.f_in)))
def z5q (r:z00):List XV:=[]
def z5r (r:z00):z0q:=[oB 138 (bs (z03 r))]
noncomputable def z6g (a0:z00) (a1:Int):Option (z00 × z0n) :=
 z6o a0 a1>>=fun v1 =>
 if (!v1) then (z2q a0 5>>=fun v2 =>
 some (v2,(z0n.mk 0 (ByteArray.mk #[]) 0 0)))
 else (idx a0.f_l 0>>=fun v3 =>
 lsub a0.f_l 1 (a0.f_l.length:Int)>>=fun v4 =>
 some ((z00.mk v4 a0.f_end a0.f_e a0.f_at a0.f_deep a0.f_in),v3))
def zbt (r:(z00 × z0n)):List XV:=[.agg (bs (z1p r.2))]
def zbu (r:(z00 × z0n)):z0q:=[oB 138 (bs (z03 r.1))]
noncomputable def z0p (a0:z00):Option (z00 × ByteArray) :=
 z6g a0 1>>=fun v1 =>
 some (v1.1,v1.2.Text)
def z2a (r:(z00 × ByteArray)):List XV:=[xS r.2]
def z2b (r:(z00 × ByteArray)):z0q:=[oB 138 (bs (z03 r.1))]
noncomputable def z0u (a0:(List ByteArray)) (x1:(Int × (List z0n) × Int × Int × Int × Int × Int)):Option (Sum (Int × (List z0n) × Int × Int × Int × Int × Int) (Sum (z00 × Int) ((List z0n) × Int × Int × Int × Int × Int))) :=
 if (decide (x1.1<(a0.length:Int))) then (idx a0 x1.1>>=fun v1 =>
 z0r (z00.mk x1.2.1 x1.2.2.1 x1.2.2.2.1 x1.2.2.2.2.1 x1.2.2.2.2.2.1 x1.2.2.2.2.2.2) v1>>=fun v2 =>
 if v2.2 then (some (.inr (.inl (v2.1,x1.1))))
 else (some (.inl ((IntKind.i64.wrap (x1.1+1)),v2.1.f_l,v2.1.f_end,v2.1.f_e,v2.1.f_at,v2.1.f_deep,v2.1.f_in))))
 else (some (.inr (.inr (x1.2.1,x1.2.2.1,x1.2.2.2.1,x1.2.2.2.2.1,x1.2.2.2.2.2.1,x1.2.2.2.2.2.2))))
noncomputable def z2m (a0:(List ByteArray)) (a1010:z00):Option (z00 × Int) :=
 iter (z0u a0) (0,a1010.f_l,a1010.f_end,a1010.f_e,a1010.f_at,a1010.f_deep,a1010.f_in)>>=Sum.elim (fun r=>some r) (fun j1 =>
 some ((z00.mk j1.1 j1.2.1 j1.2.2.1 j1.2.2.2.1 j1.2.2.2.2.1 j1.2.2.2.2.2),(-1)))
def z4d (r:(z00 × Int)):List XV:=[xI r.2]
def z4e (r:(z00 × Int)):z0q:=[oB 138 (bs (z03 r.1))]
noncomputable def z8b (r:(z00 × Int)):Tg:=.r false Tryz.f131.results.toList 1 (z4d r) (z4e r)
noncomputable def z25 (a0:z00) (a1:(List ByteArray)):Option (z00 × Int) :=
 z2m a1 a0>>=fun v1 =>
 some (v1.1,v1.2)
def z7y (r:(z00 × Int)):List XV:=[xI r.2]
def z7z (r:(z00 × Int)):z0q:=[oB 138 (bs (z03 r.1))]
noncomputable def z2h (a0:z00):Option (z00 × Int) :=
 z6g a0 2>>=fun v1 =>
 some (v1.1,v1.2.Num)
def z7j (r:(z00 × Int)):List XV:=[xI r.2]
def z7k (r:(z00 × Int)):z0q:=[oB 138 (bs (z03 r.1))]
noncomputable def z08 (a0:z00) (a1:ByteArray):Option z00 :=
 z0r a0 a1>>=fun v1 =>
 if (!v1.2) then (z2q v1.1 5>>=fun v2 =>
 some v2)
 else (some v1.1)
def z0w (r:z00):List XV:=[]
def z0x (r:z00):z0q:=[oB 138 (bs (z03 r))]
noncomputable def z2j (x1:((List z0n) × Int × Int × Int × Int × Int × (List ByteArray))):Option (Sum ((List z0n) × Int × Int × Int × Int × Int × (List ByteArray)) (Sum (z00 × z29) ((List z0n) × Int × Int × Int × Int × Int × (List ByteArray)))) :=
 z0r (z00.mk x1.1 x1.2.1 x1.2.2.1 x1.2.2.2.1 x1.2.2.2.2.1 x1.2.2.2.2.2.1) (ByteArray.mk #[44])>>=fun v12 =>
 if v12.2 then (z0p v12.1>>=fun v13 =>
 app 16 x1.2.2.2.2.2.2 [v13.2]>>=fun v14 =>
 some (.inl (v13.1.f_l,v13.1.f_end,v13.1.f_e,v13.1.f_at,v13.1.f_deep,v13.1.f_in,v14)))
 else (some (.inr (.inr (v12.1.f_l,v12.1.f_end,v12.1.f_e,v12.1.f_at,v12.1.f_deep,v12.1.f_in,x1.2.2.2.2.2.2))))
noncomputable def z6t (a0:z00):Option (z00 × z29) :=
 z0p a0>>=fun v1 =>
 z25 v1.1 [(ByteArray.mk #[98,108,111,99,107]),(ByteArray.mk #[100,114,111,112]),(ByteArray.mk #[108,111,115,115,121])]>>=fun v2 =>
 if (decide (v2.2<0)) then (z2q v2.1 5>>=fun v3 =>
 some (v3,(z29.mk v1.2 v2.2 0 (ByteArray.mk #[]) (ByteArray.mk #[]) [])))
 else (z2h v2.1>>=fun v4 =>
 z08 v4.1 (ByteArray.mk #[102,114,111,109])>>=fun v5 =>
 z0p v5>>=fun v6 =>
 z08 v6.1 (ByteArray.mk #[116,111])>>=fun v7 =>
 z0p v7>>=fun v8 =>
 z08 v8.1 (ByteArray.mk #[123])>>=fun v9 =>
 z0p v9>>=fun v10 =>
 app 16 [] [v10.2]>>=fun v11 =>
 iter (z2j) (v10.1.f_l,v10.1.f_end,v10.1.f_e,v10.1.f_at,v10.1.f_deep,v10.1.f_in,v11)>>=Sum.elim (fun _=>none) (fun j1 =>
 z08 (z00.mk j1.1 j1.2.1 j1.2.2.1 j1.2.2.2.1 j1.2.2.2.2.1 j1.2.2.2.2.2.1) (ByteArray.mk #[125])>>=fun v15 =>
 z08 v15 (ByteArray.mk #[59])>>=fun v16 =>
 some (v16,(z29.mk v1.2 v2.2 v4.2 v6.2 v8.2 j1.2.2.2.2.2.2))))
def za3 (r:(z00 × z29)):List XV:=[.agg (bs (z0c r.2))]
def za4 (r:(z00 × z29)):z0q:=[oB 138 (bs (z03 r.1))]
noncomputable def zha (r:(z00 × z29)):Tg:=.r false Tryz.f43.results.toList 1 (za3 r) (za4 r)
noncomputable def z40 (x1:((List z0n) × Int × Int × Int × Int × Int × (List z5d))):Option (Sum ((List z0n) × Int × Int × Int × Int × Int × (List z5d)) (Sum (z00 × z3e) ((List z0n) × Int × Int × Int × Int × Int × (List z5d)))) :=
 ((if (x1.2.2.1==0) then (z3j (z00.mk x1.1 x1.2.1 x1.2.2.1 x1.2.2.2.1 x1.2.2.2.2.1 x1.2.2.2.2.2.1) (ByteArray.mk #[125])>>=fun v3 =>
 some (!v3))
 else (some false):Option Bool)>>=fun j2 =>
 if j2 then (z2h (z00.mk x1.1 x1.2.1 x1.2.2.1 x1.2.2.2.1 x1.2.2.2.2.1 x1.2.2.2.2.2.1)>>=fun v4 =>
 z0p v4.1>>=fun v5 =>
 z2h v5.1>>=fun v6 =>
 z08 v6.1 (ByteArray.mk #[59])>>=fun v7 =>
 app 32 x1.2.2.2.2.2.2 [(z5d.mk v4.2 v5.2 v6.2)]>>=fun v8 =>
 some (.inl (v7.f_l,v7.f_end,v7.f_e,v7.f_at,v7.f_deep,v7.f_in,v8)))
 else (some (.inr (.inr (x1.1,x1.2.1,x1.2.2.1,x1.2.2.2.1,x1.2.2.2.2.1,x1.2.2.2.2.2.1,x1.2.2.2.2.2.2)))))
noncomputable def z83 (a0:z00):Option (z00 × z3e) :=
 z0p a0>>=fun v1 =>
 z08 v1.1 (ByteArray.mk #[123])>>=fun v2 =>
 iter (z40) (v2.f_l,v2.f_end,v2.f_e,v2.f_at,v2.f_deep,v2.f_in,[])>>=Sum.elim (fun _=>none) (fun j1 =>
 z08 (z00.mk j1.1 j1.2.1 j1.2.2.1 j1.2.2.2.1 j1.2.2.2.2.1 j1.2.2.2.2.2.1) (ByteArray.mk #[125])>>=fun v9 =>
 some (v9,(z3e.mk v1.2 j1.2.2.2.2.2.2)))
def zbv (r:(z00 × z3e)):List XV:=[.agg (bs (z0e r.2))]
def zbw (r:(z00 × z3e)):z0q:=[oB 138 (bs (z03 r.1))]
noncomputable def zjn (r:(z00 × z3e)):Tg:=.r false Tryz.f44.results.toList 1 (zbv r) (zbw r)
noncomputable def z7q (a0:z00):Option (z00 × Bool) :=
 if (a0.f_deep==24) then (z2q a0 6>>=fun v1 =>
 some (v1,false))
 else (some ((z00.mk a0.f_l a0.f_end a0.f_e a0.f_at (IntKind.i64.wrap (a0.f_deep+1)) a0.f_in),true))
def zb8 (r:(z00 × Bool)):List XV:=[xB r.2]
def zb9 (r:(z00 × Bool)):z0q:=[oB 138 (bs (z03 r.1))]
def z2u (r:(z00 × z06)):List XV:=[.agg (bs (z0o r.2))]
def z2v (r:(z00 × z06)):z0q:=[oB 138 (bs (z03 r.1))]
noncomputable def z2z (F_parse_reader_expr:z00→Option (z00 × z06)) (F_parse_reader_chain_parse_reader_term:z00→(List ByteArray)→Int→Option (z00 × z06)) (F_parse_reader_term:z00→Option (z00 × z06)) (F_parse_reader_chain_parse_reader_factor:z00→(List ByteArray)→Int→Option (z00 × z06)) (F_parse_reader_factor:z00→Option (z00 × z06)) (F_parse_reader_negated:z00→Option (z00 × z06)) (F_parse_reader_parens:z00→Option (z00 × z06)) (a2:(List ByteArray)) (a3:Int) (x1:((List z0n) × Int × Int × Int × Int × Int × Int × Int × ByteArray × (List z06))):Option (Sum ((List z0n) × Int × Int × Int × Int × Int × Int × Int × ByteArray × (List z06)) (Sum (z00 × z06) ((List z0n) × Int × Int × Int × Int × Int × Int × Int × ByteArray × (List z06)))) :=
 if (x1.2.2.1==0) then (z25 (z00.mk x1.1 x1.2.1 x1.2.2.1 x1.2.2.2.1 x1.2.2.2.2.1 x1.2.2.2.2.2.1) a2>>=fun v2 =>
 if (decide (v2.2<0)) then (some (.inr (.inr (v2.1.f_l,v2.1.f_end,v2.1.f_e,v2.1.f_at,v2.1.f_deep,v2.1.f_in,x1.2.2.2.2.2.2.1,x1.2.2.2.2.2.2.2.1,x1.2.2.2.2.2.2.2.2.1,x1.2.2.2.2.2.2.2.2.2))))
 else (F_parse_reader_term v2.1>>=fun v3 =>
 some (.inl (v3.1.f_l,v3.1.f_end,v3.1.f_e,v3.1.f_at,v3.1.f_deep,v3.1.f_in,(IntKind.i64.wrap (a3+v2.2)),0,(ByteArray.mk #[]),[(z06.mk x1.2.2.2.2.2.2.1 x1.2.2.2.2.2.2.2.1 x1.2.2.2.2.2.2.2.2.1 x1.2.2.2.2.2.2.2.2.2),v3.2]))))
 else (some (.inr (.inr (x1.1,x1.2.1,x1.2.2.1,x1.2.2.2.1,x1.2.2.2.2.1,x1.2.2.2.2.2.1,x1.2.2.2.2.2.2.1,x1.2.2.2.2.2.2.2.1,x1.2.2.2.2.2.2.2.2.1,x1.2.2.2.2.2.2.2.2.2))))
def z19 (r:(z00 × z06)):List XV:=[.agg (bs (z0o r.2))]
def z1a (r:(z00 × z06)):z0q:=[oB 138 (bs (z03 r.1))]
noncomputable def zb0 (r:(z00 × z06)):Tg:=.r false Tryz.f196.results.toList 1 (z19 r) (z1a r)
def z4f (r:(z00 × z06)):List XV:=[.agg (bs (z0o r.2))]
def z4g (r:(z00 × z06)):z0q:=[oB 138 (bs (z03 r.1))]
noncomputable def z2r (F_parse_reader_expr:z00→Option (z00 × z06)) (F_parse_reader_chain_parse_reader_term:z00→(List ByteArray)→Int→Option (z00 × z06)) (F_parse_reader_term:z00→Option (z00 × z06)) (F_parse_reader_chain_parse_reader_factor:z00→(List ByteArray)→Int→Option (z00 × z06)) (F_parse_reader_factor:z00→Option (z00 × z06)) (F_parse_reader_negated:z00→Option (z00 × z06)) (F_parse_reader_parens:z00→Option (z00 × z06)) (a2:(List ByteArray)) (a3:Int) (x1:((List z0n) × Int × Int × Int × Int × Int × Int × Int × ByteArray × (List z06))):Option (Sum ((List z0n) × Int × Int × Int × Int × Int × Int × Int × ByteArray × (List z06)) (Sum (z00 × z06) ((List z0n) × Int × Int × Int × Int × Int × Int × Int × ByteArray × (List z06)))) :=
 if (x1.2.2.1==0) then (z25 (z00.mk x1.1 x1.2.1 x1.2.2.1 x1.2.2.2.1 x1.2.2.2.2.1 x1.2.2.2.2.2.1) a2>>=fun v2 =>
 if (decide (v2.2<0)) then (some (.inr (.inr (v2.1.f_l,v2.1.f_end,v2.1.f_e,v2.1.f_at,v2.1.f_deep,v2.1.f_in,x1.2.2.2.2.2.2.1,x1.2.2.2.2.2.2.2.1,x1.2.2.2.2.2.2.2.2.1,x1.2.2.2.2.2.2.2.2.2))))
 else (F_parse_reader_factor v2.1>>=fun v3 =>
 some (.inl (v3.1.f_l,v3.1.f_end,v3.1.f_e,v3.1.f_at,v3.1.f_deep,v3.1.f_in,(IntKind.i64.wrap (a3+v2.2)),0,(ByteArray.mk #[]),[(z06.mk x1.2.2.2.2.2.2.1 x1.2.2.2.2.2.2.2.1 x1.2.2.2.2.2.2.2.2.1 x1.2.2.2.2.2.2.2.2.2),v3.2]))))
 else (some (.inr (.inr (x1.1,x1.2.1,x1.2.2.1,x1.2.2.2.1,x1.2.2.2.2.1,x1.2.2.2.2.2.1,x1.2.2.2.2.2.2.1,x1.2.2.2.2.2.2.2.1,x1.2.2.2.2.2.2.2.2.1,x1.2.2.2.2.2.2.2.2.2))))
def z12 (r:(z00 × z06)):List XV:=[.agg (bs (z0o r.2))]
def z13 (r:(z00 × z06)):z0q:=[oB 138 (bs (z03 r.1))]
noncomputable def za8 (r:(z00 × z06)):Tg:=.r false Tryz.f196.results.toList 1 (z12 r) (z13 r)
def z3c (r:(z00 × z06)):List XV:=[.agg (bs (z0o r.2))]
def z3d (r:(z00 × z06)):z0q:=[oB 138 (bs (z03 r.1))]
def z3t (r:(z00 × z06)):List XV:=[.agg (bs (z0o r.2))]
def z3u (r:(z00 × z06)):z0q:=[oB 138 (bs (z03 r.1))]
def z43 (r:(z00 × z06)):List XV:=[.agg (bs (z0o r.2))]
def z44 (r:(z00 × z06)):z0q:=[oB 138 (bs (z03 r.1))]
mutual
noncomputable def z1k:Nat→z00→Option (z00 × z06)
  | 0,_=>none
  | n+1,a0=>(z0i n) a0 [(ByteArray.mk #[43]),(ByteArray.mk #[45])] 4>>=fun v1 =>
 some (v1.1,v1.2)
noncomputable def z0i:Nat→z00→(List ByteArray)→Int→Option (z00 × z06)
  | 0,_,_,_=>none
  | n+1,a0,a2,a3=>(z1f n) a0>>=fun v1 =>
 iter (z2z (z1k n) (z0i n) (z1f n) (z0g n) (z0s n) (z1g n) (z1l n) a2 a3) (v1.1.f_l,v1.1.f_end,v1.1.f_e,v1.1.f_at,v1.1.f_deep,v1.1.f_in,v1.2.Kind,v1.2.Num,v1.2.Name,v1.2.Kids)>>=Sum.elim (fun _=>none) (fun j1 =>
 some ((z00.mk j1.1 j1.2.1 j1.2.2.1 j1.2.2.2.1 j1.2.2.2.2.1 j1.2.2.2.2.2.1),(z06.mk j1.2.2.2.2.2.2.1 j1.2.2.2.2.2.2.2.1 j1.2.2.2.2.2.2.2.2.1 j1.2.2.2.2.2.2.2.2.2)))
noncomputable def z1f:Nat→z00→Option (z00 × z06)
  | 0,_=>none
  | n+1,a0=>(z0g n) a0 [(ByteArray.mk #[42]),(ByteArray.mk #[47]),(ByteArray.mk #[37])] 6>>=fun v1 =>
 some (v1.1,v1.2)
noncomputable def z0g:Nat→z00→(List ByteArray)→Int→Option (z00 × z06)
  | 0,_,_,_=>none
  | n+1,a0,a2,a3=>(z0s n) a0>>=fun v1 =>
 iter (z2r (z1k n) (z0i n) (z1f n) (z0g n) (z0s n) (z1g n) (z1l n) a2 a3) (v1.1.f_l,v1.1.f_end,v1.1.f_e,v1.1.f_at,v1.1.f_deep,v1.1.f_in,v1.2.Kind,v1.2.Num,v1.2.Name,v1.2.Kids)>>=Sum.elim (fun _=>none) (fun j1 =>
 some ((z00.mk j1.1 j1.2.1 j1.2.2.1 j1.2.2.2.1 j1.2.2.2.2.1 j1.2.2.2.2.2.1),(z06.mk j1.2.2.2.2.2.2.1 j1.2.2.2.2.2.2.2.1 j1.2.2.2.2.2.2.2.2.1 j1.2.2.2.2.2.2.2.2.2)))
noncomputable def z0s:Nat→z00→Option (z00 × z06)
  | 0,_=>none
  | n+1,a0=>z3j a0 (ByteArray.mk #[45])>>=fun v1 =>
 if v1 then ((z1g n) a0>>=fun v2 =>
 some (v2.1,v2.2))
 else (z3j a0 (ByteArray.mk #[40])>>=fun v3 =>
 if v3 then ((z1l n) a0>>=fun v4 =>
 some (v4.1,v4.2))
 else (z6o a0 2>>=fun v5 =>
 if v5 then (z2h a0>>=fun v6 =>
 some (v6.1,(z06.mk 1 v6.2 (ByteArray.mk #[]) [])))
 else (z0p a0>>=fun v7 =>
 some (v7.1,(z06.mk 2 0 v7.2 [])))))
noncomputable def z1g:Nat→z00→Option (z00 × z06)
  | 0,_=>none
  | n+1,a0=>z7q a0>>=fun v1 =>
 if (!v1.2) then (some (v1.1,(z06.mk 0 0 (ByteArray.mk #[]) [])))
 else (z08 v1.1 (ByteArray.mk #[45])>>=fun v2 =>
 (z0s n) v2>>=fun v3 =>
 some ((z00.mk v3.1.f_l v3.1.f_end v3.1.f_e v3.1.f_at (IntKind.i64.wrap (v3.1.f_deep - 1)) v3.1.f_in),(z06.mk 3 0 (ByteArray.mk #[]) [v3.2])))
noncomputable def z1l:Nat→z00→Option (z00 × z06)
  | 0,_=>none
  | n+1,a0=>z7q a0>>=fun v1 =>
 if (!v1.2) then (some (v1.1,(z06.mk 0 0 (ByteArray.mk #[]) [])))
 else (z08 v1.1 (ByteArray.mk #[40])>>=fun v2 =>
 (z1k n) v2>>=fun v3 =>
 z08 v3.1 (ByteArray.mk #[41])>>=fun v4 =>
 some ((z00.mk v4.f_l v4.f_end v4.f_e v4.f_at (IntKind.i64.wrap (v4.f_deep - 1)) v4.f_in),v3.2))
end
noncomputable def z5y (a0:z00):Option (z00 × z06):=unf fun n=>z1k n a0
noncomputable def z84 (a0:z00):Option (z00 × z05) :=
 z0p a0>>=fun v1 =>
 z08 v1.1 (ByteArray.mk #[46])>>=fun v2 =>
 z0p v2>>=fun v3 =>
 z08 v3.1 (ByteArray.mk #[40])>>=fun v4 =>
 z5y v4>>=fun v5 =>
 z08 v5.1 (ByteArray.mk #[41])>>=fun v6 =>
 z08 v6 (ByteArray.mk #[59])>>=fun v7 =>
 some (v7,(z05.mk 4 v1.2 v3.2 v5.2 (z4j.mk 0 (z06.mk 0 0 (ByteArray.mk #[]) []) (z06.mk 0 0 (ByteArray.mk #[]) [])) [] [] []))
def zes (r:(z00 × z05)):List XV:=[.agg (bs (z47 r.2))]
def zet (r:(z00 × z05)):z0q:=[oB 138 (bs (z03 r.1))]
noncomputable def z5z (a0:z00):Option (z00 × z4j) :=
 z08 a0 (ByteArray.mk #[40])>>=fun v1 =>
 z5y v1>>=fun v2 =>
 z25 v2.1 [(ByteArray.mk #[61,61]),(ByteArray.mk #[33,61]),(ByteArray.mk #[60]),(ByteArray.mk #[60,61]),(ByteArray.mk #[62]),(ByteArray.mk #[62,61])]>>=fun v3 =>
 if (decide (v3.2<0)) then (z2q v3.1 5>>=fun v4 =>
 some (v4,(z4j.mk 0 v2.2 (z06.mk 0 0 (ByteArray.mk #[]) []))))
 else (z5y v3.1>>=fun v5 =>
 z08 v5.1 (ByteArray.mk #[41])>>=fun v6 =>
 some (v6,(z4j.mk (IntKind.i64.wrap (1+v3.2)) v2.2 v5.2)))
def z9r (r:(z00 × z4j)):List XV:=[.agg (bs (zg8 r.2))]
def z9s (r:(z00 × z4j)):z0q:=[oB 138 (bs (z03 r.1))]
noncomputable def z7d (a0:z00):Option (z00 × z05) :=
 z5z a0>>=fun v1 =>
 z08 v1.1 (ByteArray.mk #[59])>>=fun v2 =>
 some (v2,(z05.mk 6 (ByteArray.mk #[]) (ByteArray.mk #[]) (z06.mk 0 0 (ByteArray.mk #[]) []) v1.2 [] [] []))
def zdj (r:(z00 × z05)):List XV:=[.agg (bs (z47 r.2))]
def zdk (r:(z00 × z05)):z0q:=[oB 138 (bs (z03 r.1))]
noncomputable def z7r (a0:z00):Option (z00 × z05) :=
 z0p a0>>=fun v1 =>
 z08 v1.1 (ByteArray.mk #[59])>>=fun v2 =>
 some (v2,(z05.mk 7 v1.2 (ByteArray.mk #[]) (z06.mk 0 0 (ByteArray.mk #[]) []) (z4j.mk 0 (z06.mk 0 0 (ByteArray.mk #[]) []) (z06.mk 0 0 (ByteArray.mk #[]) [])) [] [] []))
def ze0 (r:(z00 × z05)):List XV:=[.agg (bs (z47 r.2))]
def ze1 (r:(z00 × z05)):z0q:=[oB 138 (bs (z03 r.1))]
noncomputable def z7e (a0:z00):Option (z00 × z05) :=
 z0p a0>>=fun v1 =>
 z08 v1.1 (ByteArray.mk #[61])>>=fun v2 =>
 z5y v2>>=fun v3 =>
 z08 v3.1 (ByteArray.mk #[59])>>=fun v4 =>
 some (v4,(z05.mk 1 v1.2 (ByteArray.mk #[]) v3.2 (z4j.mk 0 (z06.mk 0 0 (ByteArray.mk #[]) []) (z06.mk 0 0 (ByteArray.mk #[]) [])) [] [] []))
def zdl (r:(z00 × z05)):List XV:=[.agg (bs (z47 r.2))]
def zdm (r:(z00 × z05)):z0q:=[oB 138 (bs (z03 r.1))]
noncomputable def z8t (F_parse_reader_stmts:z00→Option (z00 × (List z05))) (F_parse_reader_stmt:z00→Option (z00 × z05 × Bool)) (F_parse_reader_conditional:z00→Option (z00 × z05)) (F_parse_reader_loop:z00→Option (z00 × z05)) (F_parse_reader_recv:z00→Option (z00 × z05)) (F_parse_reader_block:z00→Option (z00 × (List z05))) (F_parse_reader_arm:z00→Option (z00 × z1r)) (x1:((List z0n) × Int × Int × Int × Int × Int × (List z05))):Option (Sum ((List z0n) × Int × Int × Int × Int × Int × (List z05)) (Sum (z00 × (List z05)) Unit)) :=
 F_parse_reader_stmt (z00.mk x1.1 x1.2.1 x1.2.2.1 x1.2.2.2.1 x1.2.2.2.2.1 x1.2.2.2.2.2.1)>>=fun v1 =>
 if (!v1.2.2) then (some (.inr (.inl (v1.1,x1.2.2.2.2.2.2))))
 else (app 288 x1.2.2.2.2.2.2 [v1.2.1]>>=fun v2 =>
 some (.inl (v1.1.f_l,v1.1.f_end,v1.1.f_e,v1.1.f_at,v1.1.f_deep,v1.1.f_in,v2)))
def z38 (r:(z00 × (List z05))):List XV:=[xL (List.map z1e r.2)]
def z39 (r:(z00 × (List z05))):z0q:=[oB 138 (bs (z03 r.1))]
noncomputable def zip (r:(z00 × (List z05))):Tg:=.r false Tryz.f89.results.toList 1 (z38 r) (z39 r)
def z4q (r:(z00 × z05 × Bool)):List XV:=[.agg (bs (z47 r.2.1)),xB r.2.2]
def z4r (r:(z00 × z05 × Bool)):z0q:=[oB 138 (bs (z03 r.1))]
def z2x (r:(z00 × z05)):List XV:=[.agg (bs (z47 r.2))]
def z2y (r:(z00 × z05)):z0q:=[oB 138 (bs (z03 r.1))]
def z4s (r:(z00 × z05)):List XV:=[.agg (bs (z47 r.2))]
def z4t (r:(z00 × z05)):z0q:=[oB 138 (bs (z03 r.1))]
noncomputable def z6u (F_parse_reader_stmts:z00→Option (z00 × (List z05))) (F_parse_reader_stmt:z00→Option (z00 × z05 × Bool)) (F_parse_reader_conditional:z00→Option (z00 × z05)) (F_parse_reader_loop:z00→Option (z00 × z05)) (F_parse_reader_recv:z00→Option (z00 × z05)) (F_parse_reader_block:z00→Option (z00 × (List z05))) (F_parse_reader_arm:z00→Option (z00 × z1r)) (x1:((List z0n) × Int × Int × Int × Int × Int × (List z1r))):Option (Sum ((List z0n) × Int × Int × Int × Int × Int × (List z1r)) (Sum (z00 × z05) ((List z0n) × Int × Int × Int × Int × Int × (List z1r)))) :=
 ((if (x1.2.2.1==0) then (z3j (z00.mk x1.1 x1.2.1 x1.2.2.1 x1.2.2.2.1 x1.2.2.2.2.1 x1.2.2.2.2.2.1) (ByteArray.mk #[125])>>=fun v5 =>
 some (!v5))
 else (some false):Option Bool)>>=fun j2 =>
 if j2 then (F_parse_reader_arm (z00.mk x1.1 x1.2.1 x1.2.2.1 x1.2.2.2.1 x1.2.2.2.2.1 x1.2.2.2.2.2.1)>>=fun v6 =>
 app 56 x1.2.2.2.2.2.2 [v6.2]>>=fun v7 =>
 some (.inl (v6.1.f_l,v6.1.f_end,v6.1.f_e,v6.1.f_at,v6.1.f_deep,v6.1.f_in,v7)))
 else (some (.inr (.inr (x1.1,x1.2.1,x1.2.2.1,x1.2.2.2.1,x1.2.2.2.2.1,x1.2.2.2.2.2.1,x1.2.2.2.2.2.2)))))
def z4h (r:(z00 × z05)):List XV:=[.agg (bs (z47 r.2))]
def z4i (r:(z00 × z05)):z0q:=[oB 138 (bs (z03 r.1))]
noncomputable def zjo (r:(z00 × z05)):Tg:=.r false Tryz.f157.results.toList 1 (z4h r) (z4i r)
def z3a (r:(z00 × (List z05))):List XV:=[xL (List.map z1e r.2)]
def z3b (r:(z00 × (List z05))):z0q:=[oB 138 (bs (z03 r.1))]
def z4o (r:(z00 × z1r)):List XV:=[.agg (bs (znq r.2))]
def z4p (r:(z00 × z1r)):z0q:=[oB 138 (bs (z03 r.1))]
mutual
noncomputable def z1b:Nat→z00→Option (z00 × (List z05))
  | 0,_=>none
  | n+1,a0=>iter (z8t (z1b n) (z0y n) (z15 n) (z2d n) (z26 n) (z0t n) (z1i n)) (a0.f_l,a0.f_end,a0.f_e,a0.f_at,a0.f_deep,a0.f_in,[])>>=Sum.elim (fun r=>some r) (fun j1 =>
 none)
noncomputable def z0y:Nat→z00→Option (z00 × z05 × Bool)
  | 0,_=>none
  | n+1,a0=>z0r a0 (ByteArray.mk #[105,102])>>=fun v1 =>
 if v1.2 then ((z15 n) v1.1>>=fun v2 =>
 some (v2.1,v2.2,true))
 else (z0r v1.1 (ByteArray.mk #[119,104,105,108,101])>>=fun v3 =>
 if v3.2 then ((z2d n) v3.1>>=fun v4 =>
 some (v4.1,v4.2,true))
 else (z0r v3.1 (ByteArray.mk #[115,101,110,100])>>=fun v5 =>
 if v5.2 then (z84 v5.1>>=fun v6 =>
 some (v6.1,v6.2,true))
 else (z0r v5.1 (ByteArray.mk #[114,101,99,118])>>=fun v7 =>
 if v7.2 then ((z26 n) v7.1>>=fun v8 =>
 some (v8.1,v8.2,true))
 else (z0r v7.1 (ByteArray.mk #[97,115,115,101,114,116])>>=fun v9 =>
 if v9.2 then (z7d v9.1>>=fun v10 =>
 some (v10.1,v10.2,true))
 else (z0r v9.1 (ByteArray.mk #[105,110,112,117,116])>>=fun v11 =>
 if v11.2 then (z7r v11.1>>=fun v12 =>
 some (v12.1,v12.2,true))
 else (z6o v11.1 1>>=fun v13 =>
 if v13 then (z7e v11.1>>=fun v14 =>
 some (v14.1,v14.2,true))
 else (some (v11.1,(z05.mk 0 (ByteArray.mk #[]) (ByteArray.mk #[]) (z06.mk 0 0 (ByteArray.mk #[]) []) (z4j.mk 0 (z06.mk 0 0 (ByteArray.mk #[]) []) (z06.mk 0 0 (ByteArray.mk #[]) [])) [] [] []),false))))))))
noncomputable def z15:Nat→z00→Option (z00 × z05)
  | 0,_=>none
  | n+1,a0=>z5z a0>>=fun v1 =>
 (z0t n) v1.1>>=fun v2 =>
 z0r v2.1 (ByteArray.mk #[101,108,115,101])>>=fun v3 =>
 if v3.2 then ((z0t n) v3.1>>=fun v4 =>
 some (v4.1,(z05.mk 2 (ByteArray.mk #[]) (ByteArray.mk #[]) (z06.mk 0 0 (ByteArray.mk #[]) []) v1.2 v2.2 v4.2 [])))
 else (some (v3.1,(z05.mk 2 (ByteArray.mk #[]) (ByteArray.mk #[]) (z06.mk 0 0 (ByteArray.mk #[]) []) v1.2 v2.2 [] [])))
noncomputable def z2d:Nat→z00→Option (z00 × z05)
  | 0,_=>none
  | n+1,a0=>z5z a0>>=fun v1 =>
 (z0t n) v1.1>>=fun v2 =>
 some (v2.1,(z05.mk 3 (ByteArray.mk #[]) (ByteArray.mk #[]) (z06.mk 0 0 (ByteArray.mk #[]) []) v1.2 v2.2 [] []))
noncomputable def z26:Nat→z00→Option (z00 × z05)
  | 0,_=>none
  | n+1,a0=>z0p a0>>=fun v1 =>
 z08 v1.1 (ByteArray.mk #[123])>>=fun v2 =>
 (z1i n) v2>>=fun v3 =>
 app 56 [] [v3.2]>>=fun v4 =>
 iter (z6u (z1b n) (z0y n) (z15 n) (z2d n) (z26 n) (z0t n) (z1i n)) (v3.1.f_l,v3.1.f_end,v3.1.f_e,v3.1.f_at,v3.1.f_deep,v3.1.f_in,v4)>>=Sum.elim (fun _=>none) (fun j1 =>
 z08 (z00.mk j1.1 j1.2.1 j1.2.2.1 j1.2.2.2.1 j1.2.2.2.2.1 j1.2.2.2.2.2.1) (ByteArray.mk #[125])>>=fun v8 =>
 some (v8,(z05.mk 5 v1.2 (ByteArray.mk #[]) (z06.mk 0 0 (ByteArray.mk #[]) []) (z4j.mk 0 (z06.mk 0 0 (ByteArray.mk #[]) []) (z06.mk 0 0 (ByteArray.mk #[]) [])) [] [] j1.2.2.2.2.2.2)))
noncomputable def z0t:Nat→z00→Option (z00 × (List z05))
  | 0,_=>none
  | n+1,a0=>((z3j a0 (ByteArray.mk #[123])>>=fun v1 =>
 if v1 then (some (a0.f_in==24))
 else (some false):Option Bool)>>=fun j1 =>
 if j1 then (z2q a0 6>>=fun v2 =>
 some (v2,[]))
 else (z08 a0 (ByteArray.mk #[123])>>=fun v3 =>
 (z1b n) (z00.mk v3.f_l v3.f_end v3.f_e v3.f_at v3.f_deep (IntKind.i64.wrap (v3.f_in+1)))>>=fun v4 =>
 z08 (z00.mk v4.1.f_l v4.1.f_end v4.1.f_e v4.1.f_at v4.1.f_deep (IntKind.i64.wrap (v4.1.f_in - 1))) (ByteArray.mk #[125])>>=fun v5 =>
 some (v5,v4.2)))
noncomputable def z1i:Nat→z00→Option (z00 × z1r)
  | 0,_=>none
  | n+1,a0=>z0p a0>>=fun v1 =>
 z08 v1.1 (ByteArray.mk #[40])>>=fun v2 =>
 z0p v2>>=fun v3 =>
 z08 v3.1 (ByteArray.mk #[41])>>=fun v4 =>
 (z0t n) v4>>=fun v5 =>
 some (v5.1,(z1r.mk v1.2 v3.2 v5.2))
end
noncomputable def z7s (a0:z00):Option (z00 × (List z05)):=unf fun n=>z1b n a0
noncomputable def z41 (x1:((List z0n) × Int × Int × Int × Int × Int × (List ByteArray))):Option (Sum ((List z0n) × Int × Int × Int × Int × Int × (List ByteArray)) (Sum (z00 × z3k) ((List z0n) × Int × Int × Int × Int × Int × (List ByteArray)))) :=
 z0r (z00.mk x1.1 x1.2.1 x1.2.2.1 x1.2.2.2.1 x1.2.2.2.2.1 x1.2.2.2.2.2.1) (ByteArray.mk #[118,97,114])>>=fun v3 =>
 if v3.2 then (z0p v3.1>>=fun v4 =>
 app 16 x1.2.2.2.2.2.2 [v4.2]>>=fun v5 =>
 z08 v4.1 (ByteArray.mk #[59])>>=fun v6 =>
 some (.inl (v6.f_l,v6.f_end,v6.f_e,v6.f_at,v6.f_deep,v6.f_in,v5)))
 else (some (.inr (.inr (v3.1.f_l,v3.1.f_end,v3.1.f_e,v3.1.f_at,v3.1.f_deep,v3.1.f_in,x1.2.2.2.2.2.2))))
noncomputable def z86 (a0:z00):Option (z00 × z3k) :=
 z0p a0>>=fun v1 =>
 z08 v1.1 (ByteArray.mk #[123])>>=fun v2 =>
 iter (z41) (v2.f_l,v2.f_end,v2.f_e,v2.f_at,v2.f_deep,v2.f_in,[])>>=Sum.elim (fun _=>none) (fun j1 =>
 z7s (z00.mk j1.1 j1.2.1 j1.2.2.1 j1.2.2.2.1 j1.2.2.2.2.1 j1.2.2.2.2.2.1)>>=fun v7 =>
 z08 v7.1 (ByteArray.mk #[125])>>=fun v8 =>
 some (v8,(z3k.mk v1.2 j1.2.2.2.2.2.2 v7.2)))
def zbx (r:(z00 × z3k)):List XV:=[.agg (bs (z0d r.2))]
def zby (r:(z00 × z3k)):z0q:=[oB 138 (bs (z03 r.1))]
noncomputable def zjp (r:(z00 × z3k)):Tg:=.r false Tryz.f45.results.toList 1 (zbx r) (zby r)
noncomputable def z7f (x1:((List z0n) × Int × Int × Int × Int × Int × (List z29))):Option (Sum ((List z0n) × Int × Int × Int × Int × Int × (List z29)) (Sum (z17 × Int × Int) ((List z0n) × Int × Int × Int × Int × Int × (List z29)))) :=
 z0r (z00.mk x1.1 x1.2.1 x1.2.2.1 x1.2.2.2.1 x1.2.2.2.2.1 x1.2.2.2.2.2.1) (ByteArray.mk #[99,104,97,110])>>=fun v2 =>
 if v2.2 then (z6t v2.1>>=fun v3 =>
 app 88 x1.2.2.2.2.2.2 [v3.2]>>=fun v4 =>
 some (.inl (v3.1.f_l,v3.1.f_end,v3.1.f_e,v3.1.f_at,v3.1.f_deep,v3.1.f_in,v4)))
 else (some (.inr (.inr (v2.1.f_l,v2.1.f_end,v2.1.f_e,v2.1.f_at,v2.1.f_deep,v2.1.f_in,x1.2.2.2.2.2.2))))
noncomputable def z7g (x2:((List z0n) × Int × Int × Int × Int × Int × (List z3e))):Option (Sum ((List z0n) × Int × Int × Int × Int × Int × (List z3e)) (Sum (z17 × Int × Int) ((List z0n) × Int × Int × Int × Int × Int × (List z3e)))) :=
 z0r (z00.mk x2.1 x2.2.1 x2.2.2.1 x2.2.2.2.1 x2.2.2.2.2.1 x2.2.2.2.2.2.1) (ByteArray.mk #[114,117,108,101])>>=fun v5 =>
 if v5.2 then (z83 v5.1>>=fun v6 =>
 app 40 x2.2.2.2.2.2.2 [v6.2]>>=fun v7 =>
 some (.inl (v6.1.f_l,v6.1.f_end,v6.1.f_e,v6.1.f_at,v6.1.f_deep,v6.1.f_in,v7)))
 else (some (.inr (.inr (v5.1.f_l,v5.1.f_end,v5.1.f_e,v5.1.f_at,v5.1.f_deep,v5.1.f_in,x2.2.2.2.2.2.2))))
noncomputable def z6j (x3:((List z0n) × Int × Int × Int × Int × Int × (List z3k))):Option (Sum ((List z0n) × Int × Int × Int × Int × Int × (List z3k)) (Sum (z17 × Int × Int) ((List z0n) × Int × Int × Int × Int × Int × (List z3k)))) :=
 z0r (z00.mk x3.1 x3.2.1 x3.2.2.1 x3.2.2.2.1 x3.2.2.2.2.1 x3.2.2.2.2.2.1) (ByteArray.mk #[112,114,111,99])>>=fun v8 =>
 if v8.2 then (z86 v8.1>>=fun v9 =>
 app 64 x3.2.2.2.2.2.2 [v9.2]>>=fun v10 =>
 some (.inl (v9.1.f_l,v9.1.f_end,v9.1.f_e,v9.1.f_at,v9.1.f_deep,v9.1.f_in,v10)))
 else (some (.inr (.inr (v8.1.f_l,v8.1.f_end,v8.1.f_e,v8.1.f_at,v8.1.f_deep,v8.1.f_in,x3.2.2.2.2.2.2))))
noncomputable def zak (a0:ByteArray):Option (z17 × Int × Int) :=
 zhs a0>>=fun v1 =>
 if (v1.2.2 != 0) then (some ((z17.mk [] [] []),v1.2.1,v1.2.2))
 else (iter (z7f) (v1.1,(a0.size:Int),0,0,0,0,[])>>=Sum.elim (fun _=>none) (fun j1 =>
 iter (z7g) (j1.1,j1.2.1,j1.2.2.1,j1.2.2.2.1,j1.2.2.2.2.1,j1.2.2.2.2.2.1,[])>>=Sum.elim (fun _=>none) (fun j2 =>
 iter (z6j) (j2.1,j2.2.1,j2.2.2.1,j2.2.2.2.1,j2.2.2.2.2.1,j2.2.2.2.2.2.1,[])>>=Sum.elim (fun _=>none) (fun j3 =>
 if (decide ((j3.1.length:Int) > 0)) then (z2q (z00.mk j3.1 j3.2.1 j3.2.2.1 j3.2.2.2.1 j3.2.2.2.2.1 j3.2.2.2.2.2.1) 5>>=fun v11 =>
 if (v11.f_e != 0) then (some ((z17.mk [] [] []),v11.f_at,v11.f_e))
 else (some ((z17.mk j1.2.2.2.2.2.2 j2.2.2.2.2.2.2 j3.2.2.2.2.2.2),0,0)))
 else (if (j3.2.2.1 != 0) then (some ((z17.mk [] [] []),j3.2.2.2.1,j3.2.2.1))
 else (some ((z17.mk j1.2.2.2.2.2.2 j2.2.2.2.2.2.2 j3.2.2.2.2.2.2),0,0)))))))
def ze7 (r:(z17 × Int × Int)):List XV:=[.agg (bs (z5l r.1)),xI r.2.1,xI r.2.2]
def zko (r:(z17 × Int × Int)):z0q:=[]
noncomputable def zgz (r:(z17 × Int × Int)):Tg:=.r false Tryz.f17.results.toList 0 (ze7 r) (zko r)
noncomputable def z3p (a0:Int) (a1:Int) (a2:Int):Option Bool :=
 if (decide (a0≥a1)) then (some (decide (a0≤a2)))
 else (some false)
def z16 (r:Bool):List XV:=[xB r]
def zof (r:Bool):z0q:=[]
noncomputable def zg0 (a0:z0a) (v1:(List Int)) (x1:(Int × Int)) (x2:(Int × Int)):Option (Sum (Int × Int) (Sum Bool Int)) :=
 if (decide (x2.2<(v1.length:Int))) then (((idx v1 x2.2>>=fun v2 =>
 z3p v2 (-1) (IntKind.i64.wrap ((a0.Rule.length:Int) - 1))>>=fun v3 =>
 if (!v3) then (some (.inl false))
 else (if (v2 != (-1)) then (some (.inr (max (max x2.1 x1.2) v2)))
 else (some (.inr x2.1))):Option (Sum Bool Int))>>=Sum.elim (fun r=>some (.inr (.inl r))) (fun j3 =>
 some (.inl (j3,(IntKind.i64.wrap (x2.2+1)))))))
 else (some (.inr (.inr x2.1)))
noncomputable def zg1 (a0:z0a) (x1:(Int × Int)):Option (Sum (Int × Int) (Sum Bool Int)) :=
 if (decide (x1.2<(a0.Rule.length:Int))) then (idx a0.Rule x1.2>>=fun v1 =>
 if ((v1.length:Int) != a0.Tags) then (some (.inr (.inl false)))
 else (iter (zg0 a0 v1 x1) (x1.1,0)>>=Sum.elim (fun r=>some (.inr (.inl r))) (fun j2 =>
 some (.inl (j2,(IntKind.i64.wrap (x1.2+1)))))))
 else (some (.inr (.inr x1.1)))
noncomputable def zd6 (a0:z0a):Option Bool :=
 iter (zg1 a0) (0,0)>>=Sum.elim (fun r=>some r) (fun j1 =>
 if ((a0.Rule.length:Int)==0) then (some true)
 else (if (j1==(IntKind.i64.wrap ((a0.Rule.length:Int) - 1))) then (some (decide ((a0.Rule.length:Int)≤8)))
 else (some false)))
def ze8 (r:Bool):List XV:=[xB r]
def zkp (r:Bool):z0q:=[]
noncomputable def zh0 (r:Bool):Tg:=.r false Tryz.f65.results.toList 0 (ze8 r) (zkp r)
noncomputable def zb1 (a0:z0a) (a1:Int):Option Bool :=
 ((z3p a0.Kind 0 2>>=fun v1 =>
 if v1 then (z3p a0.Size 1 16>>=fun v2 =>
 if v2 then (z3p a0.Tags 1 4>>=fun v3 =>
 some v3)
 else (some false))
 else (some false):Option Bool)>>=fun j1 =>
 ((if j1 then (z3p a0.From 0 (IntKind.i64.wrap (a1 - 1))>>=fun v4 =>
 if v4 then (z3p a0.To 0 (IntKind.i64.wrap (a1 - 1))>>=fun v5 =>
 if v5 then (if (a0.From != a0.To) then (zd6 a0>>=fun v6 =>
 some v6)
 else (some false))
 else (some false))
 else (some false))
 else (some false):Option Bool)>>=fun j2 =>
 some j2))
def zeu (r:Bool):List XV:=[xB r]
def zny (r:Bool):z0q:=[]
noncomputable def zgh (a0:z0v):Option Bool :=
 if (a0.Kind==0) then (if (a0.Num==0) then (if (a0.Var==0) then (some ((a0.Kids.length:Int)==0))
 else (some false))
 else (some false))
 else (some false)
def zc9 (r:Bool):List XV:=[xB r]
def zre (r:Bool):z0q:=[]
noncomputable def zhz (a0:z5w):Option Bool :=
 if (a0.Op==0) then (zgh a0.L>>=fun v1 =>
 if v1 then (zgh a0.R>>=fun v2 =>
 some v2)
 else (some false))
 else (some false)
def zg2 (r:Bool):List XV:=[xB r]
def zog (r:Bool):z0q:=[]
noncomputable def zm1 (a0:Int):Option Int :=
 ((if (a0==1) then (some true)
 else (some (a0==2)):Option Bool)>>=fun j1 =>
 if j1 then (some 0)
 else (if (a0==3) then (some 1)
 else (z3p a0 4 8>>=fun v1 =>
 if v1 then (some 2)
 else (some (-1)))))
def zi0 (r:Int):List XV:=[xI r]
def zrf (r:Int):z0q:=[]
noncomputable def ze9 (F_check_expr:z0v→Int→Option Bool) (a0:z0v) (a1:Int) (x2:Int):Option (Sum Int (Sum Bool Unit)) :=
 if (decide (x2<(a0.Kids.length:Int))) then (idx a0.Kids x2>>=fun v6 =>
 F_check_expr v6 a1>>=fun v7 =>
 if (!v7) then (some (.inr (.inl false)))
 else (some (.inl (IntKind.i64.wrap (x2+1)))))
 else (some (.inr (.inr ())))
def z6w (r:Bool):List XV:=[xB r]
def zmn (r:Bool):z0q:=[]
noncomputable def zrg (r:Bool):Tg:=.r false Tryz.f101.results.toList 0 (z6w r) (zmn r)
noncomputable def z92:Nat→z0v→Int→Option Bool
  | 0,_,_=>none
  | n+1,a0,a1=>zm1 a0.Kind>>=fun v1 =>
 if ((a0.Kids.length:Int) != v1) then (some false)
 else (((if (a0.Kind != 1) then (if (a0.Num != 0) then (some true)
 else (if (a0.Kind != 2) then (if (a0.Var != 0) then (some true)
 else (if (a0.Kind==2) then (z3p a0.Var 0 (IntKind.i64.wrap (a1 - 1))>>=fun v2 =>
 some (!v2))
 else (some false)))
 else (if (a0.Kind==2) then (z3p a0.Var 0 (IntKind.i64.wrap (a1 - 1))>>=fun v3 =>
 some (!v3))
 else (some false))))
 else (if (a0.Kind != 2) then (if (a0.Var != 0) then (some true)
 else (if (a0.Kind==2) then (z3p a0.Var 0 (IntKind.i64.wrap (a1 - 1))>>=fun v4 =>
 some (!v4))
 else (some false)))
 else (if (a0.Kind==2) then (z3p a0.Var 0 (IntKind.i64.wrap (a1 - 1))>>=fun v5 =>
 some (!v5))
 else (some false))):Option Bool)>>=fun j1 =>
 if j1 then (some false)
 else (iter (ze9 (z92 n) a0 a1) 0>>=Sum.elim (fun r=>some r) (fun j2 =>
 z3p a0.Num 0 2147483647>>=fun v8 =>
 some v8))))
noncomputable def zd7 (a0:z0v) (a1:Int):Option Bool:=unf fun n=>z92 n a0 a1
noncomputable def zgi (a0:z5w) (a1:Int):Option Bool :=
 z3p a0.Op 1 6>>=fun v1 =>
 if v1 then (zd7 a0.L a1>>=fun v2 =>
 if v2 then (zd7 a0.R a1>>=fun v3 =>
 some v3)
 else (some false))
 else (some false)
def z9m (r:Bool):List XV:=[xB r]
def zrh (r:Bool):z0q:=[]
noncomputable def zi1 (a0:z0a):Option Int :=
 some a0.From
def zg3 (r:Int):List XV:=[xI r]
def zoh (r:Int):z0q:=[]
noncomputable def z8c (a0:z1q) (a1:Int):Option Bool :=
 z3p a1 0 (IntKind.i64.wrap ((a0.f_p.Chans.length:Int) - 1))>>=fun v1 =>
 if v1 then (idx a0.f_p.Chans a1>>=fun v2 =>
 zi1 v2>>=fun v3 =>
 some (v3==a0.f_proc))
 else (some false)
def z5a (r:Bool):List XV:=[xB r]
def zdx (r:Bool):z0q:=[]
noncomputable def zbm (a0:z1q) (a1:Int) (a2:Int):Option Bool :=
 idx a0.f_p.Chans a1>>=fun v1 =>
 z3p a2 0 (IntKind.i64.wrap (v1.Tags - 1))>>=fun v2 =>
 some v2
def z61 (r:Bool):List XV:=[xB r]
def zkq (r:Bool):z0q:=[]
noncomputable def zm2 (a0:z0a):Option Int :=
 some a0.To
def zi2 (r:Int):List XV:=[xI r]
def zri (r:Int):z0q:=[]
noncomputable def z93 (a0:z1q) (a1:Int):Option Bool :=
 z3p a1 0 (IntKind.i64.wrap ((a0.f_p.Chans.length:Int) - 1))>>=fun v1 =>
 if v1 then (idx a0.f_p.Chans a1>>=fun v2 =>
 zm2 v2>>=fun v3 =>
 some (v3==a0.f_proc))
 else (some false)
def z6p (r:Bool):List XV:=[xB r]
def zev (r:Bool):z0q:=[]
noncomputable def z8u (F_check_looker_stmts:z1q→(List z0h)→Option Bool) (F_check_looker_stmt:z1q→z0h→Option Bool) (F_check_looker_arms:z1q→Int→(List z3z)→Option Bool) (a0:z1q) (a1:(List z0h)) (x1:Int):Option (Sum Int (Sum Bool Unit)) :=
 if (decide (x1<(a1.length:Int))) then (idx a1 x1>>=fun v1 =>
 F_check_looker_stmt a0 v1>>=fun v2 =>
 if (!v2) then (some (.inr (.inl false)))
 else (some (.inl (IntKind.i64.wrap (x1+1)))))
 else (some (.inr (.inr ())))
def z2w (r:Bool):List XV:=[xB r]
def ze2 (r:Bool):z0q:=[]
noncomputable def ziq (r:Bool):Tg:=.r false Tryz.f29.results.toList 0 (z2w r) (ze2 r)
def z69 (r:Bool):List XV:=[xB r]
def zjq (r:Bool):z0q:=[]
noncomputable def zba (F_check_looker_stmts:z1q→(List z0h)→Option Bool) (F_check_looker_stmt:z1q→z0h→Option Bool) (F_check_looker_arms:z1q→Int→(List z3z)→Option Bool) (a0:z1q) (a1:Int) (a2:(List z3z)) (x1:(Int × Bool × Bool × Bool × Bool)):Option (Sum (Int × Bool × Bool × Bool × Bool) (Sum Bool Unit)) :=
 if (decide (x1.1<(a2.length:Int))) then (idx a2 x1.1>>=fun v1 =>
 ((zbm a0 a1 v1.Tag>>=fun v2 =>
 if (!v2) then (some true)
 else (inA 4 v1.Tag>>=fun v3 =>
 if ((arr false [x1.2.1,x1.2.2.1,x1.2.2.2.1,x1.2.2.2.2]) v3) then (some true)
 else (z3p v1.Var 0 (IntKind.i64.wrap (a0.f_vars - 1))>>=fun v4 =>
 if (!v4) then (some true)
 else (F_check_looker_stmts a0 v1.Body>>=fun v5 =>
 some (!v5)))):Option Bool)>>=fun j2 =>
 if j2 then (some (.inr (.inl false)))
 else (inA 4 v1.Tag>>=fun v6 =>
 some (upd (arr false [x1.2.1,x1.2.2.1,x1.2.2.2.1,x1.2.2.2.2]) v6 true)>>=fun v7 =>
 some (.inl ((IntKind.i64.wrap (x1.1+1)),(v7 0),(v7 1),(v7 2),(v7 3))))))
 else (some (.inr (.inr ())))
def z5s (r:Bool):List XV:=[xB r]
def zew (r:Bool):z0q:=[]
noncomputable def zjr (r:Bool):Tg:=.r false Tryz.f107.results.toList 0 (z5s r) (zew r)
mutual
noncomputable def z2c:Nat→z1q→(List z0h)→Option Bool
  | 0,_,_=>none
  | n+1,a0,a1=>iter (z8u (z2c n) (z3r n) (z4c n) a0 a1) 0>>=Sum.elim (fun r=>some r) (fun j1 =>
 some true)
noncomputable def z3r:Nat→z1q→z0h→Option Bool
  | 0,_,_=>none
  | n+1,a0,a1=>zgh a1.E>>=fun v1 =>
 zhz a1.C>>=fun v2 =>
 ((if (a1.Chan==0) then (some (a1.Tag==0))
 else (some false):Option Bool)>>=fun j1 =>
 if (a1.Kind==1) then (((if v2 then (if ((a1.Body.length:Int)==0) then (if ((a1.Else.length:Int)==0) then (if ((a1.Arms.length:Int)==0) then (if j1 then (z3p a1.Var 0 (IntKind.i64.wrap (a0.f_vars - 1))>>=fun v3 =>
 if v3 then (zd7 a1.E a0.f_vars>>=fun v4 =>
 some v4)
 else (some false))
 else (some false))
 else (some false))
 else (some false))
 else (some false))
 else (some false):Option Bool)>>=fun j2 =>
 some j2))
 else (if (a1.Kind==7) then (((if v1 then (if v2 then (if ((a1.Body.length:Int)==0) then (if ((a1.Else.length:Int)==0) then (if ((a1.Arms.length:Int)==0) then (if j1 then (z3p a1.Var 0 (IntKind.i64.wrap (a0.f_vars - 1))>>=fun v5 =>
 some v5)
 else (some false))
 else (some false))
 else (some false))
 else (some false))
 else (some false))
 else (some false):Option Bool)>>=fun j3 =>
 some j3))
 else (if (a1.Kind==6) then (((if v1 then (if ((a1.Body.length:Int)==0) then (if ((a1.Else.length:Int)==0) then (if ((a1.Arms.length:Int)==0) then (if j1 then (if (a1.Var==0) then (zgi a1.C a0.f_vars>>=fun v6 =>
 some v6)
 else (some false))
 else (some false))
 else (some false))
 else (some false))
 else (some false))
 else (some false):Option Bool)>>=fun j4 =>
 some j4))
 else (if (a1.Kind==3) then (((if v1 then (if ((a1.Else.length:Int)==0) then (if ((a1.Arms.length:Int)==0) then (if j1 then (if (a1.Var==0) then (zgi a1.C a0.f_vars>>=fun v7 =>
 if v7 then ((z2c n) a0 a1.Body>>=fun v8 =>
 some v8)
 else (some false))
 else (some false))
 else (some false))
 else (some false))
 else (some false))
 else (some false):Option Bool)>>=fun j5 =>
 some j5))
 else (if (a1.Kind==2) then (((if v1 then (if ((a1.Arms.length:Int)==0) then (if j1 then (if (a1.Var==0) then (zgi a1.C a0.f_vars>>=fun v9 =>
 if v9 then ((z2c n) a0 a1.Body>>=fun v10 =>
 if v10 then ((z2c n) a0 a1.Else>>=fun v11 =>
 some v11)
 else (some false))
 else (some false))
 else (some false))
 else (some false))
 else (some false))
 else (some false):Option Bool)>>=fun j6 =>
 some j6))
 else (if (a1.Kind==4) then (((if v2 then (if ((a1.Body.length:Int)==0) then (if ((a1.Else.length:Int)==0) then (if ((a1.Arms.length:Int)==0) then (if (a1.Var==0) then (z8c a0 a1.Chan>>=fun v12 =>
 if v12 then (zbm a0 a1.Chan a1.Tag>>=fun v13 =>
 if v13 then (zd7 a1.E a0.f_vars>>=fun v14 =>
 some v14)
 else (some false))
 else (some false))
 else (some false))
 else (some false))
 else (some false))
 else (some false))
 else (some false):Option Bool)>>=fun j7 =>
 some j7))
 else (if (a1.Kind==5) then (((if v1 then (if v2 then (if ((a1.Body.length:Int)==0) then (if ((a1.Else.length:Int)==0) then (if (a1.Var==0) then (if (a1.Tag==0) then (z93 a0 a1.Chan>>=fun v15 =>
 if v15 then ((z4c n) a0 a1.Chan a1.Arms>>=fun v16 =>
 some v16)
 else (some false))
 else (some false))
 else (some false))
 else (some false))
 else (some false))
 else (some false))
 else (some false):Option Bool)>>=fun j8 =>
 some j8))
 else (some false))))))))
noncomputable def z4c:Nat→z1q→Int→(List z3z)→Option Bool
  | 0,_,_,_=>none
  | n+1,a0,a1,a2=>iter (zba (z2c n) (z3r n) (z4c n) a0 a1 a2) (0,false,false,false,false)>>=Sum.elim (fun r=>some r) (fun j1 =>
 some (decide ((a2.length:Int) > 0)))
end
noncomputable def z7t (a0:z1q) (a1:(List z0h)):Option Bool:=unf fun n=>z2c n a0 a1
noncomputable def zbe (a0:z18) (x2:Int):Option (Sum Int (Sum Bool Unit)) :=
 if (decide (x2<(a0.Chans.length:Int))) then (idx a0.Chans x2>>=fun v2 =>
 zb1 v2 (a0.Procs.length:Int)>>=fun v3 =>
 if (!v3) then (some (.inr (.inl false)))
 else (some (.inl (IntKind.i64.wrap (x2+1)))))
 else (some (.inr (.inr ())))
noncomputable def za1 (a0:z18) (x3:Int):Option (Sum Int (Sum Bool Unit)) :=
 if (decide (x3<(a0.Procs.length:Int))) then (idx a0.Procs x3>>=fun v4 =>
 ((z3p v4.Vars 0 6>>=fun v5 =>
 if (!v5) then (some true)
 else (z7t (z1q.mk a0 x3 v4.Vars) v4.Body>>=fun v6 =>
 some (!v6)):Option Bool)>>=fun j4 =>
 if j4 then (some (.inr (.inl false)))
 else (some (.inl (IntKind.i64.wrap (x3+1))))))
 else (some (.inr (.inr ())))
noncomputable def z9t (a0:z18):Option Bool :=
 ((if (decide ((a0.Chans.length:Int) > 4)) then (some true)
 else (z3p (a0.Procs.length:Int) 1 4>>=fun v1 =>
 some (!v1)):Option Bool)>>=fun j1 =>
 if j1 then (some false)
 else (iter (zbe a0) 0>>=Sum.elim (fun r=>some r) (fun j2 =>
 iter (za1 a0) 0>>=Sum.elim (fun r=>some r) (fun j3 =>
 some true))))
def zb2 (r:Bool):List XV:=[xB r]
def zkr (r:Bool):z0q:=[]
noncomputable def zks (r:Bool):Tg:=.r false Tryz.f10.results.toList 0 (zb2 r) (zkr r)
noncomputable def zgj:Option Bool :=
 zak (ByteArray.mk #[99,104,97,110,32,99,32,98,108,111,99,107,32,49,32,102,114,111,109,32,112,32,116,111,32,113,32,123,32,97,32,125,32,59,32,112,114,111,99,32,112,32,123,32,115,101,110,100,32,99,32,46,32,97,32,40,32,49,32,41,32,59,32,125,32,112,114,111,99,32,113,32,123,32,125])>>=fun v1 =>
 z91 v1.1>>=fun v2 =>
 ((if (v1.2.2==0) then (if (v2.2==0) then (if ((v2.1.Chans.length:Int)==1) then (idx v2.1.Chans 0>>=fun v3 =>
 if (v3.From==0) then (idx v2.1.Chans 0>>=fun v4 =>
 if (v4.To==1) then (if ((v2.1.Procs.length:Int)==2) then (z9t v2.1>>=fun v5 =>
 if v5 then (z9t (z18.mk [] [])>>=fun v6 =>
 some (!v6))
 else (some false))
 else (some false))
 else (some false))
 else (some false))
 else (some false))
 else (some false))
 else (some false):Option Bool)>>=fun j1 =>
 some j1)
def zca (r:Bool):List XV:=[xB r]
def zrj (r:Bool):z0q:=[]
noncomputable def z6h (a0:(List z3y)) (x1:(Int × Int × (Nat→(Nat→Int)) × (List z3y))):Option (Sum (Int × Int × (Nat→(Nat→Int)) × (List z3y)) (Sum Bool (Int × (Nat→(Nat→Int)) × (List z3y)))) :=
 ((if (decide (x1.2.1<(a0.length:Int))) then (some (decide (x1.2.1<20)))
 else (some false):Option Bool)>>=fun j2 =>
 if j2 then (((idx a0 x1.2.1>>=fun v1 =>
 idx a0 x1.2.1>>=fun v2 =>
 rem (IntKind.u64.wrap v2.From) 8>>=fun v3 =>
 idx [(ByteArray.mk #[97]),(ByteArray.mk #[98])] (IntKind.i64.wrap (BitVec.ofInt IntKind.i64.bits v1.To &&& BitVec.ofInt IntKind.i64.bits 1).toNat)>>=fun v4 =>
 rem (IntKind.u64.wrap v2.To) 8>>=fun v5 =>
 inA 8 (IntKind.i64.wrap v3)>>=fun v6 =>
 inA 2 (IntKind.i64.wrap (BitVec.ofInt IntKind.i64.bits v1.To &&& BitVec.ofInt IntKind.i64.bits 1).toNat)>>=fun v7 =>
 if (decide (((x1.2.2.1 v6) v7) > 0)) then (some (x1.1,x1.2.2.1,x1.2.2.2))
 else (inA 8 (IntKind.i64.wrap v3)>>=fun v8 =>
 inA 2 (IntKind.i64.wrap (BitVec.ofInt IntKind.i64.bits v1.To &&& BitVec.ofInt IntKind.i64.bits 1).toNat)>>=fun v9 =>
 some (upd2 x1.2.2.1 v8 v9 (IntKind.i64.wrap ((IntKind.i64.wrap v5)+1)))>>=fun v10 =>
 app 32 x1.2.2.2 [(z3y.mk (IntKind.i64.wrap v3) v4 (IntKind.i64.wrap v5))]>>=fun v11 =>
 some ((max (max x1.1 (IntKind.i64.wrap v3)) (IntKind.i64.wrap v5)),v10,v11)):Option (Int × (Nat→(Nat→Int)) × (List z3y)))>>=fun j3 =>
 some (.inl (j3.1,(IntKind.i64.wrap (x1.2.1+1)),j3.2.1,j3.2.2))))
 else (some (.inr (.inr (x1.1,x1.2.2.1,x1.2.2.2)))))
noncomputable def z87 (j1:(Int × (Nat→(Nat→Int)) × (List z3y))) (v13:(z18 × Int)) (x5:Int):Option (Sum Int (Sum Bool Unit)) :=
 if (decide (x5≤j1.1)) then (idx v13.1.Chans 0>>=fun v16 =>
 idx v16.Rule x5>>=fun v17 =>
 ((if ((v17.length:Int) != 2) then (some true)
 else (idx v17 0>>=fun v18 =>
 inA 8 x5>>=fun v19 =>
 if (v18 != (IntKind.i64.wrap (((j1.2.1 v19) 0) - 1))) then (some true)
 else (idx v17 1>>=fun v20 =>
 inA 8 x5>>=fun v21 =>
 some (v20 != (IntKind.i64.wrap (((j1.2.1 v21) 1) - 1))))):Option Bool)>>=fun j6 =>
 if j6 then (some (.inr (.inl false)))
 else (some (.inl (IntKind.i64.wrap (x5+1))))))
 else (some (.inr (.inr ())))
noncomputable def zde (a0:(List z3y)):Option Bool :=
 iter (z6h a0) (0,0,(arr (arr 0 []) [(arr 0 [0,0]),(arr 0 [0,0]),(arr 0 [0,0]),(arr 0 [0,0]),(arr 0 [0,0]),(arr 0 [0,0]),(arr 0 [0,0]),(arr 0 [0,0])]),[])>>=Sum.elim (fun _=>none) (fun j1 =>
 zee (z63.mk [(zbi.mk (ByteArray.mk #[99]) 0 1 (ByteArray.mk #[112]) (ByteArray.mk #[113]) [(ByteArray.mk #[97]),(ByteArray.mk #[98])])] [(zfa.mk (ByteArray.mk #[99]) j1.2.2)] [(z8p.mk (ByteArray.mk #[112]) [] []),(z8p.mk (ByteArray.mk #[113]) [] [])])>>=fun v12 =>
 z91 v12>>=fun v13 =>
 ((zgj>>=fun v14 =>
 if (!v14) then (some true)
 else (if (v13.2 != 0) then (some true)
 else (if ((v13.1.Chans.length:Int) != 1) then (some true)
 else (idx v13.1.Chans 0>>=fun v15 =>
 some ((v15.Rule.length:Int) != (IntKind.i64.wrap (j1.1+1)))))):Option Bool)>>=fun j4 =>
 if j4 then (some false)
 else (iter (z87 j1 v13) 0>>=Sum.elim (fun r=>some r) (fun j5 =>
 some true))))
def zdy (r:Bool):List XV:=[xB r]
def zh6 (r:Bool):z0q:=[]
noncomputable def zh7 (r:Bool):Tg:=.r false Tryz.f5.results.toList 0 (zdy r) (zh6 r)
end Go.Proofs.YtimbigpplbbjaaaGreatDoor.Abs
