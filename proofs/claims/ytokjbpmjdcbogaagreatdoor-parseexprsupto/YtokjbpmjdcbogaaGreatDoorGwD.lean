/- Gw: the functions, told by typed values. -/
import Derived.Test.YtokjbpmjdcbogaaGreatDoorHandT
import Derived.Test.YtokjbpmjdcbogaaGreatDoorProg
namespace Go.Proofs.YtokjbpmjdcbogaaGreatDoor.Abs
open Go Go.RowKit
set_option linter.unusedVariables false
structure z39 where
 Name:ByteArray
 Kind:Int
 Size:Int
 From:ByteArray
 To:ByteArray
 Tags:(List ByteArray)
structure z4j where
 From:Int
 Tag:ByteArray
 To:Int
structure z3g where
 Chan:ByteArray
 Moves:(List z4j)
structure z06 where
 Kind:Int
 Num:Int
 Name:ByteArray
 Kids:(List z06)
structure z3t where
 Op:Int
 L:z06
 R:z06
mutual
inductive z0y where
 | mk (Tag:ByteArray) (Var:ByteArray) (Body:(List z05))
inductive z05 where
 | mk (Kind:Int) (Name:ByteArray) (Tag:ByteArray) (E:z06) (C:z3t) (Body:(List z05)) (Else:(List z05)) (Arms:(List z0y))
end
def z0y.Tag:z0y→ByteArray
 | .mk x _ _=>x
def z0y.Var:z0y→ByteArray
 | .mk _ x _=>x
def z0y.Body:z0y→(List z05)
 | .mk _ _ x=>x
def z05.Kind:z05→Int
 | .mk x _ _ _ _ _ _ _=>x
def z05.Name:z05→ByteArray
 | .mk _ x _ _ _ _ _ _=>x
def z05.Tag:z05→ByteArray
 | .mk _ _ x _ _ _ _ _=>x
def z05.E:z05→z06
 | .mk _ _ _ x _ _ _ _=>x
def z05.C:z05→z3t
 | .mk _ _ _ _ x _ _ _=>x
def z05.Body:z05→(List z05)
 | .mk _ _ _ _ _ x _ _=>x
def z05.Else:z05→(List z05)
 | .mk _ _ _ _ _ _ x _=>x
def z05.Arms:z05→(List z0y)
 | .mk _ _ _ _ _ _ _ x=>x
structure z3h where
 Name:ByteArray
 Vars:(List ByteArray)
 Body:(List z05)
structure z3l where
 Name:ByteArray
 Kind:Int
 Size:Int
 From:ByteArray
 To:ByteArray
 Tags:(List ByteArray)
structure z6c where
 From:Int
 Tag:ByteArray
 To:Int
structure z4t where
 Chan:ByteArray
 Moves:(List z6c)
structure z04 where
 Kind:Int
 Num:Int
 Name:ByteArray
 Kids:(List z04)
structure z1k where
 Op:Int
 L:z04
 R:z04
mutual
inductive z2k where
 | mk (Tag:ByteArray) (Var:ByteArray) (Body:(List z03))
inductive z03 where
 | mk (Kind:Int) (Name:ByteArray) (Tag:ByteArray) (E:z04) (C:z1k) (Body:(List z03)) (Else:(List z03)) (Arms:(List z2k))
end
def z2k.Tag:z2k→ByteArray
 | .mk x _ _=>x
def z2k.Var:z2k→ByteArray
 | .mk _ x _=>x
def z2k.Body:z2k→(List z03)
 | .mk _ _ x=>x
def z03.Kind:z03→Int
 | .mk x _ _ _ _ _ _ _=>x
def z03.Name:z03→ByteArray
 | .mk _ x _ _ _ _ _ _=>x
def z03.Tag:z03→ByteArray
 | .mk _ _ x _ _ _ _ _=>x
def z03.E:z03→z04
 | .mk _ _ _ x _ _ _ _=>x
def z03.C:z03→z1k
 | .mk _ _ _ _ x _ _ _=>x
def z03.Body:z03→(List z03)
 | .mk _ _ _ _ _ x _ _=>x
def z03.Else:z03→(List z03)
 | .mk _ _ _ _ _ _ x _=>x
def z03.Arms:z03→(List z2k)
 | .mk _ _ _ _ _ _ _ x=>x
structure z31 where
 Name:ByteArray
 Vars:(List ByteArray)
 Body:(List z03)
structure z0g where
 Kind:Int
 Text:ByteArray
 Num:Int
 At:Int
structure z0r where
 Kind:Int
 Text:ByteArray
 Num:Int
 At:Int
mutual
def z1l:z04→List PV
 | .mk z_Kind z_Num z_Name z_Kids=>[.int .i64 z_Kind,.int .i64 z_Num,.str z_Name,.sl (zf3 z_Kids)]
def zf3:List z04→List (List PV)
 | []=>[]
 | x::xs=>z1l x::zf3 xs
end
theorem zh7:∀ l,zf3 l=List.map z1l l
 | []=>rfl
 | x::xs=>by rw [zf3,zh7 xs];rfl
theorem z26 (x:z04):z1l x=[.int .i64 x.Kind,.int .i64 x.Num,.str x.Name,.sl (List.map z1l x.Kids)]:=by
 cases x;rw [z1l,zh7]
theorem zo3 (x:z04):(z1l x).length=4:=by rw [z26];rfl
mutual
def z4o:z2k→List PV
 | .mk z_Tag z_Var z_Body=>[.str z_Tag,.str z_Var,.sl (z9p z_Body)]
def zec:List z2k→List (List PV)
 | []=>[]
 | x::xs=>z4o x::zec xs
def z09:z03→List PV
 | .mk z_Kind z_Name z_Tag z_E z_C z_Body z_Else z_Arms=>[.int .i64 z_Kind,.str z_Name,.str z_Tag,.int .i64 z_E.Kind,.int .i64 z_E.Num,.str z_E.Name,.sl (List.map z1l z_E.Kids),.int .i64 z_C.Op,.int .i64 z_C.L.Kind,.int .i64 z_C.L.Num,.str z_C.L.Name,.sl (List.map z1l z_C.L.Kids),.int .i64 z_C.R.Kind,.int .i64 z_C.R.Num,.str z_C.R.Name,.sl (List.map z1l z_C.R.Kids),.sl (z9p z_Body),.sl (z9p z_Else),.sl (zec z_Arms)]
def z9p:List z03→List (List PV)
 | []=>[]
 | x::xs=>z09 x::z9p xs
end
theorem zip:∀ l,zec l=List.map z4o l
 | []=>by rw [zec];rfl
 | x::xs=>by rw [zec,zip xs];rfl
theorem zed:∀ l,z9p l=List.map z09 l
 | []=>by rw [z9p];rfl
 | x::xs=>by rw [z9p,zed xs];rfl
theorem z2w (x:z2k):z4o x=[.str x.Tag,.str x.Var,.sl (List.map z09 x.Body)]:=by
 cases x;rw [z4o];simp only [zed];first|done|rfl
theorem zpy (x:z2k):(z4o x).length=3:=by rw [z2w];rfl
theorem z7l (x:z03):z09 x=[.int .i64 x.Kind,.str x.Name,.str x.Tag,.int .i64 x.E.Kind,.int .i64 x.E.Num,.str x.E.Name,.sl (List.map z1l x.E.Kids),.int .i64 x.C.Op,.int .i64 x.C.L.Kind,.int .i64 x.C.L.Num,.str x.C.L.Name,.sl (List.map z1l x.C.L.Kids),.int .i64 x.C.R.Kind,.int .i64 x.C.R.Num,.str x.C.R.Name,.sl (List.map z1l x.C.R.Kids),.sl (List.map z09 x.Body),.sl (List.map z09 x.Else),.sl (List.map z4o x.Arms)]:=by
 cases x;rw [z09];simp only [zip,zed];first|done|rfl
theorem zo4 (x:z03):(z09 x).length=19:=by rw [z7l];rfl
def z1g (x:ByteArray):List PV:=[.str x]
def z2e (x:z31):List PV:=[.str x.Name,.sl (List.map z1g x.Vars),.sl (List.map z09 x.Body)]
structure z0i where
 Chans:(List z3l)
 Rules:(List z4t)
 Procs:(List z31)
def z2a (x:z3l):List PV:=[.str x.Name,.int .i64 x.Kind,.int .i64 x.Size,.str x.From,.str x.To,.sl (List.map z1g x.Tags)]
def z0v (x:z0r):List PV:=[.int .i64 x.Kind,.str x.Text,.int .i64 x.Num,.int .i64 x.At]
def z4r (x:z6c):List PV:=[.int .i64 x.From,.str x.Tag,.int .i64 x.To]
def z1p (x:z4t):List PV:=[.str x.Chan,.sl (List.map z4r x.Moves)]
def z0e (x:z0i):List PV:=[.sl (List.map z2a x.Chans),.sl (List.map z1p x.Rules),.sl (List.map z2e x.Procs)]
def z73 (x:z1k):List PV:=[.int .i64 x.Op,.int .i64 x.L.Kind,.int .i64 x.L.Num,.str x.L.Name,.sl (List.map z1l x.L.Kids),.int .i64 x.R.Kind,.int .i64 x.R.Num,.str x.R.Name,.sl (List.map z1l x.R.Kids)]
def zch (x:(List z03)):List PV:=[.sl (List.map z09 x)]
structure z23 where
 Chans:(List z39)
 Rules:(List z3g)
 Procs:(List z3h)
def z2b (x:z0g):List PV:=[.int .i64 x.Kind,.str x.Text,.int .i64 x.Num,.int .i64 x.At]
structure z00 where
 f_l:(List z0g)
 f_end:Int
 f_e:Int
 f_at:Int
 f_deep:Int
 f_in:Int
def z02 (x:z00):List PV:=[.sl (List.map z2b x.f_l),.int .i64 x.f_end,.int .i64 x.f_e,.int .i64 x.f_at,.int .i64 x.f_deep,.int .i64 x.f_in]
def z2o (x:z39):List PV:=[.str x.Name,.int .i64 x.Kind,.int .i64 x.Size,.str x.From,.str x.To,.sl (List.map z1g x.Tags)]
def z4s (x:z4j):List PV:=[.int .i64 x.From,.str x.Tag,.int .i64 x.To]
def z3c (x:z3g):List PV:=[.str x.Chan,.sl (List.map z4s x.Moves)]
mutual
def z15:z06→List PV
 | .mk z_Kind z_Num z_Name z_Kids=>[.int .i64 z_Kind,.int .i64 z_Num,.str z_Name,.sl (zf4 z_Kids)]
def zf4:List z06→List (List PV)
 | []=>[]
 | x::xs=>z15 x::zf4 xs
end
theorem zh8:∀ l,zf4 l=List.map z15 l
 | []=>rfl
 | x::xs=>by rw [zf4,zh8 xs];rfl
theorem z5z (x:z06):z15 x=[.int .i64 x.Kind,.int .i64 x.Num,.str x.Name,.sl (List.map z15 x.Kids)]:=by
 cases x;rw [z15,zh8]
theorem zo5 (x:z06):(z15 x).length=4:=by rw [z5z];rfl
mutual
def z2l:z0y→List PV
 | .mk z_Tag z_Var z_Body=>[.str z_Tag,.str z_Var,.sl (z9q z_Body)]
def zee:List z0y→List (List PV)
 | []=>[]
 | x::xs=>z2l x::zee xs
def z16:z05→List PV
 | .mk z_Kind z_Name z_Tag z_E z_C z_Body z_Else z_Arms=>[.int .i64 z_Kind,.str z_Name,.str z_Tag,.int .i64 z_E.Kind,.int .i64 z_E.Num,.str z_E.Name,.sl (List.map z15 z_E.Kids),.int .i64 z_C.Op,.int .i64 z_C.L.Kind,.int .i64 z_C.L.Num,.str z_C.L.Name,.sl (List.map z15 z_C.L.Kids),.int .i64 z_C.R.Kind,.int .i64 z_C.R.Num,.str z_C.R.Name,.sl (List.map z15 z_C.R.Kids),.sl (z9q z_Body),.sl (z9q z_Else),.sl (zee z_Arms)]
def z9q:List z05→List (List PV)
 | []=>[]
 | x::xs=>z16 x::z9q xs
end
theorem ziq:∀ l,zee l=List.map z2l l
 | []=>by rw [zee];rfl
 | x::xs=>by rw [zee,ziq xs];rfl
theorem zef:∀ l,z9q l=List.map z16 l
 | []=>by rw [z9q];rfl
 | x::xs=>by rw [z9q,zef xs];rfl
theorem zbe (x:z0y):z2l x=[.str x.Tag,.str x.Var,.sl (List.map z16 x.Body)]:=by
 cases x;rw [z2l];simp only [zef];first|done|rfl
theorem zg7 (x:z0y):(z2l x).length=3:=by rw [zbe];rfl
theorem z45 (x:z05):z16 x=[.int .i64 x.Kind,.str x.Name,.str x.Tag,.int .i64 x.E.Kind,.int .i64 x.E.Num,.str x.E.Name,.sl (List.map z15 x.E.Kids),.int .i64 x.C.Op,.int .i64 x.C.L.Kind,.int .i64 x.C.L.Num,.str x.C.L.Name,.sl (List.map z15 x.C.L.Kids),.int .i64 x.C.R.Kind,.int .i64 x.C.R.Num,.str x.C.R.Name,.sl (List.map z15 x.C.R.Kids),.sl (List.map z16 x.Body),.sl (List.map z16 x.Else),.sl (List.map z2l x.Arms)]:=by
 cases x;rw [z16];simp only [ziq,zef];first|done|rfl
theorem zir (x:z05):(z16 x).length=19:=by rw [z45];rfl
def ze4 (x:z3t):List PV:=[.int .i64 x.Op,.int .i64 x.L.Kind,.int .i64 x.L.Num,.str x.L.Name,.sl (List.map z15 x.L.Kids),.int .i64 x.R.Kind,.int .i64 x.R.Num,.str x.R.Name,.sl (List.map z15 x.R.Kids)]
def z0x (x:z3h):List PV:=[.str x.Name,.sl (List.map z1g x.Vars),.sl (List.map z16 x.Body)]
def z9r (x:z23):List PV:=[.sl (List.map z2o x.Chans),.sl (List.map z3c x.Rules),.sl (List.map z0x x.Procs)]
structure z01 where
 L:(List z0r)
 I:Int
 End:Int
 E:Int
 At:Int
def z0c (x:z01):List PV:=[.sl (List.map z0v x.L),.int .i64 x.I,.int .i64 x.End,.int .i64 x.E,.int .i64 x.At]
def z56 (x:z03):List PV:=[.int .i64 x.Kind,.str x.Name,.str x.Tag,.int .i64 x.E.Kind,.int .i64 x.E.Num,.str x.E.Name,.sl (List.map z1l x.E.Kids),.int .i64 x.C.Op,.int .i64 x.C.L.Kind,.int .i64 x.C.L.Num,.str x.C.L.Name,.sl (List.map z1l x.C.L.Kids),.int .i64 x.C.R.Kind,.int .i64 x.C.R.Num,.str x.C.R.Name,.sl (List.map z1l x.C.R.Kids),.sl (List.map z09 x.Body),.sl (List.map z09 x.Else),.sl (List.map z4o x.Arms)]
def z0f (x:z04):List PV:=[.int .i64 x.Kind,.int .i64 x.Num,.str x.Name,.sl (List.map z1l x.Kids)]
def z4v (x:z2k):List PV:=[.str x.Tag,.str x.Var,.sl (List.map z09 x.Body)]
def z3d (x:z06):List PV:=[.int .i64 x.Kind,.int .i64 x.Num,.str x.Name,.sl (List.map z15 x.Kids)]
def z2p (x:z05):List PV:=[.int .i64 x.Kind,.str x.Name,.str x.Tag,.int .i64 x.E.Kind,.int .i64 x.E.Num,.str x.E.Name,.sl (List.map z15 x.E.Kids),.int .i64 x.C.Op,.int .i64 x.C.L.Kind,.int .i64 x.C.L.Num,.str x.C.L.Name,.sl (List.map z15 x.C.L.Kids),.int .i64 x.C.R.Kind,.int .i64 x.C.R.Num,.str x.C.R.Name,.sl (List.map z15 x.C.R.Kids),.sl (List.map z16 x.Body),.sl (List.map z16 x.Else),.sl (List.map z2l x.Arms)]
def z6x (x:z0y):List PV:=[.str x.Tag,.str x.Var,.sl (List.map z16 x.Body)]
noncomputable def zbf (a0:Int):Option Bool :=
 if (decide (a0≥97)) then (some (decide (a0≤122)))
 else (some false)
def z6j (r:Bool):List XV:=[xB r]
def zru (r:Bool):z0p:=[]
noncomputable def zcb (a0:Int):Option Bool :=
 if (decide (a0≥48)) then (some (decide (a0≤57)))
 else (some false)
def z91 (r:Bool):List XV:=[xB r]
def ztl (r:Bool):z0p:=[]
noncomputable def zn2:Option (List ByteArray) :=
 some [(ByteArray.mk #[99,104,97,110]),(ByteArray.mk #[98,108,111,99,107]),(ByteArray.mk #[100,114,111,112]),(ByteArray.mk #[108,111,115,115,121]),(ByteArray.mk #[102,114,111,109]),(ByteArray.mk #[116,111]),(ByteArray.mk #[114,117,108,101]),(ByteArray.mk #[112,114,111,99]),(ByteArray.mk #[118,97,114]),(ByteArray.mk #[105,102]),(ByteArray.mk #[101,108,115,101]),(ByteArray.mk #[119,104,105,108,101]),(ByteArray.mk #[115,101,110,100]),(ByteArray.mk #[114,101,99,118]),(ByteArray.mk #[97,115,115,101,114,116]),(ByteArray.mk #[105,110,112,117,116])]
def zjc (r:(List ByteArray)):List XV:=[xL (List.map z1g r)]
def ztm (r:(List ByteArray)):z0p:=[]
noncomputable def z7y (a0:ByteArray) (v1:(List ByteArray)) (x1:Int):Option (Sum Int (Sum Bool Unit)) :=
 if (decide (x1<(v1.length:Int))) then (idx v1 x1>>=fun v2 =>
 if (v2.toList==a0.toList) then (some (.inr (.inl true)))
 else (some (.inl (IntKind.i64.wrap (x1+1)))))
 else (some (.inr (.inr ())))
noncomputable def zd6 (a0:ByteArray):Option Bool :=
 zn2>>=fun v1 =>
 iter (z7y a0 v1) 0>>=Sum.elim (fun r=>some r) (fun j1 =>
 some false)
def zd1 (r:Bool):List XV:=[xB r]
def zis (r:Bool):z0p:=[]
noncomputable def zo6 (r:Bool):Tg:=.r false Tryz.f64.results.toList 0 (zd1 r) (zis r)
noncomputable def zcn (a0:ByteArray) (a1:Int) (x1:Int):Option (Sum Int (Sum Int Unit)) :=
 if (decide (x1<4)) then (((if (decide ((IntKind.i64.wrap (a1+2))≤(a0.size:Int))) then (ssub a0 a1 (IntKind.i64.wrap (a1+2))>>=fun v1 =>
 idx [(ByteArray.mk #[61,61]),(ByteArray.mk #[33,61]),(ByteArray.mk #[60,61]),(ByteArray.mk #[62,61])] x1>>=fun v2 =>
 some (v1.toList==v2.toList))
 else (some false):Option Bool)>>=fun j2 =>
 if j2 then (some (.inr (.inl 2)))
 else (some (.inl (IntKind.i64.wrap (x1+1))))))
 else (some (.inr (.inr ())))
noncomputable def zco (a0:ByteArray) (a1:Int) (x3:Int):Option (Sum Int (Sum Int Unit)) :=
 if (decide (x3<((ByteArray.mk #[123,125,40,41,59,44,46,61,60,62,43,45,42,47,37]).size:Int))) then (bidx (ByteArray.mk #[123,125,40,41,59,44,46,61,60,62,43,45,42,47,37]) x3>>=fun v3 =>
 bidx a0 a1>>=fun v4 =>
 if (v3==v4) then (some (.inr (.inl 1)))
 else (some (.inl (IntKind.i64.wrap (x3+1)))))
 else (some (.inr (.inr ())))
noncomputable def zk8 (a0:ByteArray) (a1:Int):Option Int :=
 iter (zcn a0 a1) 0>>=Sum.elim (fun r=>some r) (fun j1 =>
 iter (zco a0 a1) 0>>=Sum.elim (fun r=>some r) (fun j3 =>
 some 0))
def zi6 (r:Int):List XV:=[xI r]
def zp2 (r:Int):z0p:=[]
noncomputable def zp3 (r:Int):Tg:=.r false Tryz.f65.results.toList 0 (zi6 r) (zp2 r)
noncomputable def za5 (a0:ByteArray) (v1:Int) (x3:Int):Option (Sum Int (Sum ((List z0r) × Int × Int) Int)) :=
 ((if (decide (x3<(a0.size:Int))) then (zbf v1>>=fun v2 =>
 if v2 then (bidx a0 x3>>=fun v3 =>
 zbf v3>>=fun v4 =>
 if v4 then (some true)
 else (bidx a0 x3>>=fun v5 =>
 zcb v5>>=fun v6 =>
 some v6))
 else (zcb v1>>=fun v7 =>
 if v7 then (bidx a0 x3>>=fun v8 =>
 zbf v8>>=fun v9 =>
 if v9 then (some true)
 else (bidx a0 x3>>=fun v10 =>
 zcb v10>>=fun v11 =>
 some v11))
 else (some false)))
 else (some false):Option Bool)>>=fun j4 =>
 if j4 then (some (.inl (IntKind.i64.wrap (x3+1))))
 else (some (.inr (.inr x3))))
noncomputable def zbg (v16:ByteArray) (x1:(Int × (List z0r))) (x7:(Int × Int)):Option (Sum (Int × Int) (Sum ((List z0r) × Int × Int) Int)) :=
 if (decide (x7.1<(v16.size:Int))) then (bidx v16 x7.1>>=fun v17 =>
 zcb v17>>=fun v18 =>
 if (!v18) then (some (.inr (.inl ([],x1.1,3))))
 else (bidx v16 x7.1>>=fun v19 =>
 some (.inl ((IntKind.i64.wrap (x7.1+1)),(IntKind.i64.wrap ((IntKind.i64.wrap (10*x7.2))+(IntKind.i64.wrap (IntKind.u8.wrap (v19 - 48)))))))))
 else (some (.inr (.inr x7.2)))
noncomputable def z9e (a0:ByteArray) (x1:(Int × (List z0r))):Option (Sum (Int × (List z0r)) (Sum ((List z0r) × Int × Int) (List z0r))) :=
 if (decide (x1.1<(a0.size:Int))) then (bidx a0 x1.1>>=fun v1 =>
 ((if (v1==32) then (some true)
 else (some (v1==10)):Option Bool)>>=fun j2 =>
 if j2 then (some (.inl ((IntKind.i64.wrap (x1.1+1)),x1.2)))
 else (iter (za5 a0 v1) x1.1>>=Sum.elim (fun _=>none) (fun j3 =>
 ((zbf v1>>=fun v12 =>
 if v12 then (ssub a0 x1.1 j3>>=fun v13 =>
 zd6 v13>>=fun v14 =>
 if v14 then (if (decide ((v13.size:Int) > 12)) then (some (.inl ([],x1.1,3)))
 else (some (.inr (j3,4,v13,0))))
 else (if (decide ((v13.size:Int) > 12)) then (some (.inl ([],x1.1,3)))
 else (some (.inr (j3,1,v13,0)))))
 else (zcb v1>>=fun v15 =>
 if v15 then (ssub a0 x1.1 j3>>=fun v16 =>
 ((if (decide ((v16.size:Int) > 10)) then (some true)
 else (if (decide ((v16.size:Int) > 1)) then (some (v1==48))
 else (some false)):Option Bool)>>=fun j6 =>
 if j6 then (some (.inl ([],x1.1,3)))
 else (iter (zbg v16 x1) (0,0)>>=Sum.elim (fun r=>some (.inl r)) (fun j7 =>
 if (decide (j7 > 2147483647)) then (some (.inl ([],x1.1,3)))
 else (some (.inr (j3,2,v16,j7)))))))
 else (zk8 a0 x1.1>>=fun v20 =>
 if (v20==0) then (some (.inl ([],x1.1,2)))
 else (ssub a0 x1.1 (IntKind.i64.wrap (x1.1+v20))>>=fun v21 =>
 some (.inr ((IntKind.i64.wrap (x1.1+v20)),3,v21,0))))):Option (Sum ((List z0r) × Int × Int) (Int × Int × ByteArray × Int)))>>=Sum.elim (fun r=>some (.inr (.inl r))) (fun j5 =>
 app 40 x1.2 [(z0r.mk j5.2.1 j5.2.2.1 j5.2.2.2 x1.1)]>>=fun v22 =>
 some (.inl (j5.1,v22))))))))
 else (some (.inr (.inr x1.2)))
noncomputable def zh9 (a0:ByteArray):Option ((List z0r) × Int × Int) :=
 iter (z9e a0) (0,[])>>=Sum.elim (fun r=>some r) (fun j1 =>
 if (decide ((j1.length:Int) > 2000)) then (some ([],(a0.size:Int),4))
 else (some (j1,0,0)))
def zha (r:((List z0r) × Int × Int)):List XV:=[xL (List.map z0v r.1),xI r.2.1,xI r.2.2]
def zrv (r:((List z0r) × Int × Int)):z0p:=[]
noncomputable def zk9 (r:((List z0r) × Int × Int)):Tg:=.r false Tryz.f25.results.toList 0 (zha r) (zrv r)
noncomputable def z74 (a0:ByteArray):Option Bool :=
 zh9 a0>>=fun v1 =>
 if (v1.2.2==0) then (if ((v1.1.length:Int)==1) then (idx v1.1 0>>=fun v2 =>
 if (v2.Kind==1) then (idx v1.1 0>>=fun v3 =>
 some (v3.Text.toList==a0.toList))
 else (some false))
 else (some false))
 else (some false)
def z1y (r:Bool):List XV:=[xB r]
def zxo (r:Bool):z0p:=[]
noncomputable def zbh (a0:Int):Option Bool :=
 if (decide (a0≥0)) then (some (decide (a0≤2147483647)))
 else (some false)
def z6y (r:Bool):List XV:=[xB r]
def zrw (r:Bool):z0p:=[]
noncomputable def zg8 (a0:Int):Option Bool :=
 if (decide (a0≥4)) then (some (decide (a0≤8)))
 else (some false)
def zeg (r:Bool):List XV:=[xB r]
def z002 (r:Bool):z0p:=[]
def z76 (r:Bool):List XV:=[xB r]
def zxp (r:Bool):z0p:=[]
noncomputable def z6d:Nat→z04→Option Bool
  | 0,_=>none
  | n+1,a0=>if (a0.Kind==1) then (((zbh a0.Num>>=fun v1 =>
 if v1 then (some ((a0.Kids.length:Int)==0))
 else (some false):Option Bool)>>=fun j1 =>
 some j1))
 else (if (a0.Kind==2) then (((z74 a0.Name>>=fun v2 =>
 if v2 then (some ((a0.Kids.length:Int)==0))
 else (some false):Option Bool)>>=fun j2 =>
 some j2))
 else (if (a0.Kind==3) then (((if ((a0.Kids.length:Int)==1) then (idx a0.Kids 0>>=fun v3 =>
 (z6d n) v3>>=fun v4 =>
 some v4)
 else (some false):Option Bool)>>=fun j3 =>
 some j3))
 else (zg8 a0.Kind>>=fun v5 =>
 if v5 then (((if ((a0.Kids.length:Int)==2) then (idx a0.Kids 0>>=fun v6 =>
 (z6d n) v6>>=fun v7 =>
 if v7 then (idx a0.Kids 1>>=fun v8 =>
 (z6d n) v8>>=fun v9 =>
 some v9)
 else (some false))
 else (some false):Option Bool)>>=fun j4 =>
 some j4))
 else (some false))))
noncomputable def zi7 (a0:z04):Option Bool:=unf fun n=>z6d n a0
noncomputable def zg9 (a0:z1k):Option Bool :=
 if (decide (a0.Op≥1)) then (if (decide (a0.Op≤6)) then (zi7 a0.L>>=fun v1 =>
 if v1 then (zi7 a0.R>>=fun v2 =>
 some v2)
 else (some false))
 else (some false))
 else (some false)
def zbi (r:Bool):List XV:=[xB r]
def zxq (r:Bool):z0p:=[]
noncomputable def z9s (F_r02_stmts:(List z03)→Option Bool) (v1:z03) (x4:(Bool × Int)):Option (Sum (Bool × Int) (Sum Bool Bool)) :=
 if (decide (x4.2<(v1.Arms.length:Int))) then (((if x4.1 then (idx v1.Arms x4.2>>=fun v13 =>
 z74 v13.Tag>>=fun v14 =>
 if v14 then (idx v1.Arms x4.2>>=fun v15 =>
 z74 v15.Var>>=fun v16 =>
 if v16 then (idx v1.Arms x4.2>>=fun v17 =>
 F_r02_stmts v17.Body>>=fun v18 =>
 some v18)
 else (some false))
 else (some false))
 else (some false):Option Bool)>>=fun j5 =>
 some (.inl (j5,(IntKind.i64.wrap (x4.2+1))))))
 else (some (.inr (.inr x4.1)))
noncomputable def zbj (F_r02_stmts:(List z03)→Option Bool) (a0:(List z03)) (x1:Int):Option (Sum Int (Sum Bool Unit)) :=
 if (decide (x1<(a0.length:Int))) then (((idx a0 x1>>=fun v1 =>
 if (v1.Kind==1) then (z74 v1.Name>>=fun v2 =>
 if v2 then (zi7 v1.E>>=fun v3 =>
 if (!v3) then (some (.inl false))
 else (some (.inr ())))
 else (some (.inl false)))
 else (if (v1.Kind==2) then (zg9 v1.C>>=fun v4 =>
 if v4 then (F_r02_stmts v1.Body>>=fun v5 =>
 if v5 then (F_r02_stmts v1.Else>>=fun v6 =>
 if (!v6) then (some (.inl false))
 else (some (.inr ())))
 else (some (.inl false)))
 else (some (.inl false)))
 else (if (v1.Kind==3) then (zg9 v1.C>>=fun v7 =>
 if v7 then (F_r02_stmts v1.Body>>=fun v8 =>
 if (!v8) then (some (.inl false))
 else (some (.inr ())))
 else (some (.inl false)))
 else (if (v1.Kind==4) then (z74 v1.Name>>=fun v9 =>
 if v9 then (z74 v1.Tag>>=fun v10 =>
 if v10 then (zi7 v1.E>>=fun v11 =>
 if (!v11) then (some (.inl false))
 else (some (.inr ())))
 else (some (.inl false)))
 else (some (.inl false)))
 else (if (v1.Kind==5) then (((z74 v1.Name>>=fun v12 =>
 if v12 then (some (decide ((v1.Arms.length:Int) > 0)))
 else (some false):Option Bool)>>=fun j3 =>
 iter (z9s F_r02_stmts v1) (j3,0)>>=Sum.elim (fun _=>none) (fun j4 =>
 if (!j4) then (some (.inl false))
 else (some (.inr ())))))
 else (if (v1.Kind==6) then (zg9 v1.C>>=fun v19 =>
 if (!v19) then (some (.inl false))
 else (some (.inr ())))
 else (if (v1.Kind==7) then (z74 v1.Name>>=fun v20 =>
 if (!v20) then (some (.inl false))
 else (some (.inr ())))
 else (some (.inl false)))))))):Option (Sum Bool Unit))>>=Sum.elim (fun r=>some (.inr (.inl r))) (fun j2 =>
 some (.inl (IntKind.i64.wrap (x1+1))))))
 else (some (.inr (.inr ())))
def z7c (r:Bool):List XV:=[xB r]
def zn3 (r:Bool):z0p:=[]
noncomputable def zjd (r:Bool):Tg:=.r false Tryz.f77.results.toList 0 (z7c r) (zn3 r)
noncomputable def z8a:Nat→(List z03)→Option Bool
  | 0,_=>none
  | n+1,a0=>iter (zbj (z8a n) a0) 0>>=Sum.elim (fun r=>some r) (fun j1 =>
 some true)
noncomputable def zn4 (a0:(List z03)):Option Bool:=unf fun n=>z8a n a0
noncomputable def zbk (v1:z3l) (x3:Int):Option (Sum Int (Sum Bool Unit)) :=
 if (decide (x3<(v1.Tags.length:Int))) then (idx v1.Tags x3>>=fun v6 =>
 z74 v6>>=fun v7 =>
 if (!v7) then (some (.inr (.inl false)))
 else (some (.inl (IntKind.i64.wrap (x3+1)))))
 else (some (.inr (.inr ())))
noncomputable def zbl (a0:z0i) (x1:Int):Option (Sum Int (Sum Bool Unit)) :=
 if (decide (x1<(a0.Chans.length:Int))) then (idx a0.Chans x1>>=fun v1 =>
 ((z74 v1.Name>>=fun v2 =>
 if (!v2) then (some true)
 else (z74 v1.From>>=fun v3 =>
 if (!v3) then (some true)
 else (z74 v1.To>>=fun v4 =>
 if (!v4) then (some true)
 else (if (decide (v1.Kind<0)) then (some true)
 else (if (decide (v1.Kind > 2)) then (some true)
 else (zbh v1.Size>>=fun v5 =>
 if (!v5) then (some true)
 else (some ((v1.Tags.length:Int)==0))))))):Option Bool)>>=fun j2 =>
 if j2 then (some (.inr (.inl false)))
 else (iter (zbk v1) 0>>=Sum.elim (fun r=>some (.inr (.inl r))) (fun j3 =>
 some (.inl (IntKind.i64.wrap (x1+1)))))))
 else (some (.inr (.inr ())))
noncomputable def zbm (a0:z0i) (x4:Int) (x5:Int):Option (Sum Int (Sum Bool Unit)) :=
 idx a0.Rules x4>>=fun v10 =>
 if (decide (x5<(v10.Moves.length:Int))) then (idx a0.Rules x4>>=fun v11 =>
 idx v11.Moves x5>>=fun v12 =>
 ((zbh v12.From>>=fun v13 =>
 if (!v13) then (some true)
 else (zbh v12.To>>=fun v14 =>
 if (!v14) then (some true)
 else (z74 v12.Tag>>=fun v15 =>
 some (!v15))):Option Bool)>>=fun j6 =>
 if j6 then (some (.inr (.inl false)))
 else (some (.inl (IntKind.i64.wrap (x5+1))))))
 else (some (.inr (.inr ())))
noncomputable def zbn (a0:z0i) (x4:Int):Option (Sum Int (Sum Bool Unit)) :=
 if (decide (x4<(a0.Rules.length:Int))) then (idx a0.Rules x4>>=fun v8 =>
 z74 v8.Chan>>=fun v9 =>
 if (!v9) then (some (.inr (.inl false)))
 else (iter (zbm a0 x4) 0>>=Sum.elim (fun r=>some (.inr (.inl r))) (fun j5 =>
 some (.inl (IntKind.i64.wrap (x4+1))))))
 else (some (.inr (.inr ())))
noncomputable def zbo (v16:z31) (x9:Int):Option (Sum Int (Sum Bool Unit)) :=
 if (decide (x9<(v16.Vars.length:Int))) then (idx v16.Vars x9>>=fun v19 =>
 z74 v19>>=fun v20 =>
 if (!v20) then (some (.inr (.inl false)))
 else (some (.inl (IntKind.i64.wrap (x9+1)))))
 else (some (.inr (.inr ())))
noncomputable def zbp (a0:z0i) (x7:Int):Option (Sum Int (Sum Bool Unit)) :=
 if (decide (x7<(a0.Procs.length:Int))) then (idx a0.Procs x7>>=fun v16 =>
 ((z74 v16.Name>>=fun v17 =>
 if (!v17) then (some true)
 else (zn4 v16.Body>>=fun v18 =>
 some (!v18)):Option Bool)>>=fun j8 =>
 if j8 then (some (.inr (.inl false)))
 else (iter (zbo v16) 0>>=Sum.elim (fun r=>some (.inr (.inl r))) (fun j9 =>
 some (.inl (IntKind.i64.wrap (x7+1)))))))
 else (some (.inr (.inr ())))
noncomputable def zhb (a0:z0i):Option Bool :=
 iter (zbl a0) 0>>=Sum.elim (fun r=>some r) (fun j1 =>
 iter (zbn a0) 0>>=Sum.elim (fun r=>some r) (fun j4 =>
 iter (zbp a0) 0>>=Sum.elim (fun r=>some r) (fun j7 =>
 some true)))
def zga (r:Bool):List XV:=[xB r]
def zn5 (r:Bool):z0p:=[]
noncomputable def zcp (r:Bool):Tg:=.r false Tryz.f44.results.toList 0 (zga r) (zn5 r)
noncomputable def zi8 (a0:z04) (a1:z04):Option Bool :=
 if (decide (a0.Kind≥6)) then (if (a1.Kind==4) then (some true)
 else (some (a1.Kind==5)))
 else (some false)
def zi9 (r:Bool):List XV:=[xB r]
def zxr (r:Bool):z0p:=[]
noncomputable def zeh (a0:z04) (a1:z04):Option Bool :=
 if (decide (a0.Kind≥6)) then (zg8 a1.Kind>>=fun v1 =>
 some v1)
 else (if (a1.Kind==4) then (some true)
 else (some (a1.Kind==5)))
def zei (r:Bool):List XV:=[xB r]
def ztn (r:Bool):z0p:=[]
def z64 (r:Int):List XV:=[xI r]
def zxs (r:Int):z0p:=[]
noncomputable def z8g:Nat→z04→Option Int
  | 0,_=>none
  | n+1,a0=>((if (a0.Kind==3) then (idx a0.Kids 0>>=fun v1 =>
 zg8 v1.Kind>>=fun v2 =>
 some v2)
 else (some false):Option Bool)>>=fun j1 =>
 if j1 then (idx a0.Kids 0>>=fun v3 =>
 (z8g n) v3>>=fun v4 =>
 some (IntKind.i64.wrap (2+v4)))
 else (if (a0.Kind==3) then (idx a0.Kids 0>>=fun v5 =>
 (z8g n) v5>>=fun v6 =>
 some (IntKind.i64.wrap (1+v6)))
 else (zg8 a0.Kind>>=fun v7 =>
 if v7 then (idx a0.Kids 0>>=fun v8 =>
 (z8g n) v8>>=fun v9 =>
 idx a0.Kids 1>>=fun v10 =>
 (z8g n) v10>>=fun v11 =>
 zi8 a0 v8>>=fun v12 =>
 if v12 then (zeh a0 v10>>=fun v13 =>
 if v13 then (some (max (IntKind.i64.wrap (v9+1)) (IntKind.i64.wrap (v11+1))))
 else (some (max (IntKind.i64.wrap (v9+1)) v11)))
 else (zeh a0 v10>>=fun v14 =>
 if v14 then (some (max v9 (IntKind.i64.wrap (v11+1))))
 else (some (max v9 v11))))
 else (some 0))))
noncomputable def zd2 (a0:z04):Option Int:=unf fun n=>z8g n a0
noncomputable def zdx (F_r02_blocks:(List z03)→Option (Int × Int)) (x3:Unit):Option (Sum Unit (Sum (Int × Int) Unit)) :=
 if (decide ((0:Int)<0)) then (none)
 else (some (.inr (.inr ())))
noncomputable def zdy (F_r02_blocks:(List z03)→Option (Int × Int)) (x4:Unit):Option (Sum Unit (Sum (Int × Int) Unit)) :=
 if (decide ((0:Int)<0)) then (none)
 else (some (.inr (.inr ())))
noncomputable def zdz (F_r02_blocks:(List z03)→Option (Int × Int)) (v4:(List (List z03))) (x5:(Int × Int × Int)):Option (Sum (Int × Int × Int) (Sum (Int × Int) (Int × Int))) :=
 if (decide (x5.2.2<(v4.length:Int))) then (idx v4 x5.2.2>>=fun v7 =>
 F_r02_blocks v7>>=fun v8 =>
 some (.inl ((max x5.1 (IntKind.i64.wrap (v8.1+1))),(max x5.2.1 v8.2),(IntKind.i64.wrap (x5.2.2+1)))))
 else (some (.inr (.inr (x5.1,x5.2.1))))
noncomputable def ze0 (F_r02_blocks:(List z03)→Option (Int × Int)) (v9:(List (List z03))) (x6:(Int × Int × Int)):Option (Sum (Int × Int × Int) (Sum (Int × Int) (Int × Int))) :=
 if (decide (x6.2.2<(v9.length:Int))) then (idx v9 x6.2.2>>=fun v12 =>
 F_r02_blocks v12>>=fun v13 =>
 some (.inl ((max x6.1 (IntKind.i64.wrap (v13.1+1))),(max x6.2.1 v13.2),(IntKind.i64.wrap (x6.2.2+1)))))
 else (some (.inr (.inr (x6.1,x6.2.1))))
noncomputable def z92 (F_r02_blocks:(List z03)→Option (Int × Int)) (v1:z03) (x7:(Int × (List (List z03)))):Option (Sum (Int × (List (List z03))) (Sum (Int × Int) (List (List z03)))) :=
 if (decide (x7.1<(v1.Arms.length:Int))) then (idx v1.Arms x7.1>>=fun v14 =>
 app 24 x7.2 [v14.Body]>>=fun v15 =>
 some (.inl ((IntKind.i64.wrap (x7.1+1)),v15)))
 else (some (.inr (.inr x7.2)))
noncomputable def ze1 (F_r02_blocks:(List z03)→Option (Int × Int)) (j7:(List (List z03))) (x8:(Int × Int × Int)):Option (Sum (Int × Int × Int) (Sum (Int × Int) (Int × Int))) :=
 if (decide (x8.2.2<(j7.length:Int))) then (idx j7 x8.2.2>>=fun v16 =>
 F_r02_blocks v16>>=fun v17 =>
 some (.inl ((max x8.1 (IntKind.i64.wrap (v17.1+1))),(max x8.2.1 v17.2),(IntKind.i64.wrap (x8.2.2+1)))))
 else (some (.inr (.inr (x8.1,x8.2.1))))
noncomputable def ze2 (F_r02_blocks:(List z03)→Option (Int × Int)) (x9:Unit):Option (Sum Unit (Sum (Int × Int) Unit)) :=
 if (decide ((0:Int)<0)) then (none)
 else (some (.inr (.inr ())))
noncomputable def zd3 (F_r02_blocks:(List z03)→Option (Int × Int)) (x10:Unit):Option (Sum Unit (Sum (Int × Int) Unit)) :=
 if (decide ((0:Int)<0)) then (none)
 else (some (.inr (.inr ())))
noncomputable def z93 (F_r02_blocks:(List z03)→Option (Int × Int)) (a0:(List z03)) (x1:(Int × Int × Int)):Option (Sum (Int × Int × Int) (Sum (Int × Int) (Int × Int))) :=
 if (decide (x1.2.2<(a0.length:Int))) then (((idx a0 x1.2.2>>=fun v1 =>
 if (v1.Kind==1) then (zd2 v1.E>>=fun v2 =>
 iter (zdx F_r02_blocks) ()>>=Sum.elim (fun _=>none) (fun j3 =>
 some (x1.1,(max x1.2.1 v2))))
 else (if (v1.Kind==4) then (zd2 v1.E>>=fun v3 =>
 iter (zdy F_r02_blocks) ()>>=Sum.elim (fun _=>none) (fun j4 =>
 some (x1.1,(max x1.2.1 v3))))
 else (if (v1.Kind==2) then (app 24 [] [v1.Body,v1.Else]>>=fun v4 =>
 zd2 v1.C.L>>=fun v5 =>
 zd2 v1.C.R>>=fun v6 =>
 iter (zdz F_r02_blocks v4) ((max x1.1 1),(max (max x1.2.1 v5) v6),0)>>=Sum.elim (fun _=>none) (fun j5 =>
 some (j5.1,j5.2)))
 else (if (v1.Kind==3) then (app 24 [] [v1.Body]>>=fun v9 =>
 zd2 v1.C.L>>=fun v10 =>
 zd2 v1.C.R>>=fun v11 =>
 iter (ze0 F_r02_blocks v9) ((max x1.1 1),(max (max x1.2.1 v10) v11),0)>>=Sum.elim (fun _=>none) (fun j6 =>
 some (j6.1,j6.2)))
 else (if (v1.Kind==5) then (iter (z92 F_r02_blocks v1) (0,[])>>=Sum.elim (fun _=>none) (fun j7 =>
 iter (ze1 F_r02_blocks j7) ((max x1.1 1),x1.2.1,0)>>=Sum.elim (fun _=>none) (fun j8 =>
 some (j8.1,j8.2))))
 else (if (v1.Kind==6) then (zd2 v1.C.L>>=fun v18 =>
 zd2 v1.C.R>>=fun v19 =>
 iter (ze2 F_r02_blocks) ()>>=Sum.elim (fun _=>none) (fun j9 =>
 some (x1.1,(max (max x1.2.1 v18) v19))))
 else (iter (zd3 F_r02_blocks) ()>>=Sum.elim (fun _=>none) (fun j10 =>
 some (x1.1,x1.2.1)))))))):Option (Int × Int))>>=fun j2 =>
 some (.inl (j2.1,j2.2,(IntKind.i64.wrap (x1.2.2+1))))))
 else (some (.inr (.inr (x1.1,x1.2.1))))
def z7m (r:(Int × Int)):List XV:=[xI r.1,xI r.2]
def zls (r:(Int × Int)):z0p:=[]
noncomputable def z8h (r:(Int × Int)):Tg:=.r false Tryz.f45.results.toList 0 (z7m r) (zls r)
noncomputable def z32:Nat→(List z03)→Option (Int × Int)
  | 0,_=>none
  | n+1,a0=>iter (z93 (z32 n) a0) (0,0,0)>>=Sum.elim (fun _=>none) (fun j1 =>
 some (j1.1,j1.2))
noncomputable def zl6 (a0:(List z03)):Option (Int × Int):=unf fun n=>z32 n a0
noncomputable def z43 (F_r02_exprWords:z04→Option (List ByteArray)) (F_r02_in:z04→Bool→Option (List ByteArray)) (x1:(ByteArray × Int)):Option (Sum (ByteArray × Int) (Sum (List ByteArray) ByteArray)) :=
 ((if (decide (x1.2 > 0)) then (some true)
 else (some (x1.1.toList==(ByteArray.mk #[]).toList)):Option Bool)>>=fun j2 =>
 if j2 then (rem x1.2 10>>=fun v1 =>
 scat (strOfNums [(IntKind.u8.wrap (IntKind.i64.wrap (48+v1)))]) x1.1>>=fun v2 =>
 quo .i64 x1.2 10>>=fun v3 =>
 some (.inl (v2,v3)))
 else (some (.inr (.inr x1.1))))
def z4w (r:(List ByteArray)):List XV:=[xR 0]
def z4x (r:(List ByteArray)):z0p:=[oR true 9 1 (List.map z1g r)]
noncomputable def zn6 (r:(List ByteArray)):Tg:=.r false Tryz.f79.results.toList 0 (z4w r) (z4x r)
def zgb (r:(List ByteArray)):List XV:=[xR 0]
def zgc (r:(List ByteArray)):z0p:=[oR true 9 1 (List.map z1g r)]
mutual
noncomputable def z4c:Nat→z04→Option (List ByteArray)
  | 0,_=>none
  | n+1,a0=>if (a0.Kind==1) then (iter (z43 (z4c n) (zcq n)) ((ByteArray.mk #[]),a0.Num)>>=Sum.elim (fun _=>none) (fun j1 =>
 some [j1]))
 else (if (a0.Kind==2) then (some [a0.Name])
 else (if (a0.Kind==3) then (idx a0.Kids 0>>=fun v4 =>
 zg8 v4.Kind>>=fun v5 =>
 (zcq n) v4 v5>>=fun v6 =>
 app 16 [(ByteArray.mk #[45])] v6>>=fun v7 =>
 some v7)
 else (idx a0.Kids 0>>=fun v8 =>
 zi8 a0 v8>>=fun v9 =>
 (zcq n) v8 v9>>=fun v10 =>
 idx [(ByteArray.mk #[43]),(ByteArray.mk #[45]),(ByteArray.mk #[42]),(ByteArray.mk #[47]),(ByteArray.mk #[37])] (IntKind.i64.wrap (a0.Kind - 4))>>=fun v11 =>
 app 16 v10 [v11]>>=fun v12 =>
 idx a0.Kids 1>>=fun v13 =>
 zeh a0 v13>>=fun v14 =>
 (zcq n) v13 v14>>=fun v15 =>
 app 16 v12 v15>>=fun v16 =>
 some v16)))
noncomputable def zcq:Nat→z04→Bool→Option (List ByteArray)
  | 0,_,_=>none
  | n+1,a0,a1=>(z4c n) a0>>=fun v1 =>
 if a1 then (app 16 [(ByteArray.mk #[40])] v1>>=fun v2 =>
 app 16 v2 [(ByteArray.mk #[41])]>>=fun v3 =>
 some v3)
 else (some v1)
end
noncomputable def z94 (a0:z04):Option (List ByteArray):=unf fun n=>z4c n a0
noncomputable def zcr (a0:Int):Option ByteArray :=
 z94 (z04.mk 1 a0 (ByteArray.mk #[]) [])>>=fun v1 =>
 idx v1 0>>=fun v2 =>
 some v2
def zd7 (r:ByteArray):List XV:=[xS r]
def zrx (r:ByteArray):z0p:=[]
noncomputable def z95 (a0:z1k):Option (List ByteArray) :=
 z94 a0.L>>=fun v1 =>
 app 16 [(ByteArray.mk #[40])] v1>>=fun v2 =>
 idx [(ByteArray.mk #[61,61]),(ByteArray.mk #[33,61]),(ByteArray.mk #[60]),(ByteArray.mk #[60,61]),(ByteArray.mk #[62]),(ByteArray.mk #[62,61])] (IntKind.i64.wrap (a0.Op - 1))>>=fun v3 =>
 app 16 v2 [v3]>>=fun v4 =>
 z94 a0.R>>=fun v5 =>
 app 16 v4 v5>>=fun v6 =>
 app 16 v6 [(ByteArray.mk #[41])]>>=fun v7 =>
 some v7
def z9t (r:(List ByteArray)):List XV:=[xL (List.map z1g r)]
def zn7 (r:(List ByteArray)):z0p:=[]
noncomputable def z8b (F_r02_stmtWords:(List z03)→Option (List ByteArray)) (F_r02_block:(List z03)→Option (List ByteArray)) (v1:z03) (x3:(Int × (List ByteArray))):Option (Sum (Int × (List ByteArray)) (Sum (List ByteArray) (List ByteArray))) :=
 if (decide (x3.1<(v1.Arms.length:Int))) then (idx v1.Arms x3.1>>=fun v24 =>
 app 16 x3.2 [v24.Tag,(ByteArray.mk #[40]),v24.Var,(ByteArray.mk #[41])]>>=fun v25 =>
 F_r02_block v24.Body>>=fun v26 =>
 app 16 v25 v26>>=fun v27 =>
 some (.inl ((IntKind.i64.wrap (x3.1+1)),v27)))
 else (some (.inr (.inr x3.2)))
noncomputable def z8c (F_r02_stmtWords:(List z03)→Option (List ByteArray)) (F_r02_block:(List z03)→Option (List ByteArray)) (a0:(List z03)) (x1:(Int × (List ByteArray))):Option (Sum (Int × (List ByteArray)) (Sum (List ByteArray) (List ByteArray))) :=
 if (decide (x1.1<(a0.length:Int))) then (((idx a0 x1.1>>=fun v1 =>
 if (v1.Kind==1) then (app 16 x1.2 [v1.Name,(ByteArray.mk #[61])]>>=fun v2 =>
 z94 v1.E>>=fun v3 =>
 app 16 v2 v3>>=fun v4 =>
 app 16 v4 [(ByteArray.mk #[59])]>>=fun v5 =>
 some v5)
 else (if (v1.Kind==2) then (app 16 x1.2 [(ByteArray.mk #[105,102])]>>=fun v6 =>
 z95 v1.C>>=fun v7 =>
 app 16 v6 v7>>=fun v8 =>
 F_r02_block v1.Body>>=fun v9 =>
 app 16 v8 v9>>=fun v10 =>
 if (decide ((v1.Else.length:Int) > 0)) then (app 16 v10 [(ByteArray.mk #[101,108,115,101])]>>=fun v11 =>
 F_r02_block v1.Else>>=fun v12 =>
 app 16 v11 v12>>=fun v13 =>
 some v13)
 else (some v10))
 else (if (v1.Kind==3) then (app 16 x1.2 [(ByteArray.mk #[119,104,105,108,101])]>>=fun v14 =>
 z95 v1.C>>=fun v15 =>
 app 16 v14 v15>>=fun v16 =>
 F_r02_block v1.Body>>=fun v17 =>
 app 16 v16 v17>>=fun v18 =>
 some v18)
 else (if (v1.Kind==4) then (app 16 x1.2 [(ByteArray.mk #[115,101,110,100]),v1.Name,(ByteArray.mk #[46]),v1.Tag,(ByteArray.mk #[40])]>>=fun v19 =>
 z94 v1.E>>=fun v20 =>
 app 16 v19 v20>>=fun v21 =>
 app 16 v21 [(ByteArray.mk #[41]),(ByteArray.mk #[59])]>>=fun v22 =>
 some v22)
 else (if (v1.Kind==5) then (app 16 x1.2 [(ByteArray.mk #[114,101,99,118]),v1.Name,(ByteArray.mk #[123])]>>=fun v23 =>
 iter (z8b F_r02_stmtWords F_r02_block v1) (0,v23)>>=Sum.elim (fun _=>none) (fun j3 =>
 app 16 j3 [(ByteArray.mk #[125])]>>=fun v28 =>
 some v28))
 else (if (v1.Kind==6) then (app 16 x1.2 [(ByteArray.mk #[97,115,115,101,114,116])]>>=fun v29 =>
 z95 v1.C>>=fun v30 =>
 app 16 v29 v30>>=fun v31 =>
 app 16 v31 [(ByteArray.mk #[59])]>>=fun v32 =>
 some v32)
 else (if (v1.Kind==7) then (app 16 x1.2 [(ByteArray.mk #[105,110,112,117,116]),v1.Name,(ByteArray.mk #[59])]>>=fun v33 =>
 some v33)
 else (some x1.2))))))):Option (List ByteArray))>>=fun j2 =>
 some (.inl ((IntKind.i64.wrap (x1.1+1)),j2))))
 else (some (.inr (.inr x1.2)))
def z6e (r:(List ByteArray)):List XV:=[xL (List.map z1g r)]
def zhc (r:(List ByteArray)):z0p:=[]
noncomputable def zhd (r:(List ByteArray)):Tg:=.r false Tryz.f47.results.toList 0 (z6e r) (zhc r)
def z96 (r:(List ByteArray)):List XV:=[xL (List.map z1g r)]
def zto (r:(List ByteArray)):z0p:=[]
mutual
noncomputable def z4d:Nat→(List z03)→Option (List ByteArray)
  | 0,_=>none
  | n+1,a0=>iter (z8c (z4d n) (z7s n) a0) (0,[])>>=Sum.elim (fun _=>none) (fun j1 =>
 some j1)
noncomputable def z7s:Nat→(List z03)→Option (List ByteArray)
  | 0,_=>none
  | n+1,a0=>(z4d n) a0>>=fun v1 =>
 app 16 [(ByteArray.mk #[123])] v1>>=fun v2 =>
 app 16 v2 [(ByteArray.mk #[125])]>>=fun v3 =>
 some v3
end
noncomputable def zgd (a0:(List z03)):Option (List ByteArray):=unf fun n=>z4d n a0
noncomputable def zbq (a0:z0i) (x1:Int):Option (Sum Int (Sum ((List ByteArray) × Int) Unit)) :=
 if (decide (x1<(a0.Procs.length:Int))) then (idx a0.Procs x1>>=fun v2 =>
 zl6 v2.Body>>=fun v3 =>
 ((if (decide (v3.1 > 24)) then (some true)
 else (some (decide (v3.2 > 24))):Option Bool)>>=fun j2 =>
 if j2 then (some (.inr (.inl ([],6))))
 else (some (.inl (IntKind.i64.wrap (x1+1))))))
 else (some (.inr (.inr ())))
noncomputable def zbr (v4:z3l) (x4:(Int × (List ByteArray))):Option (Sum (Int × (List ByteArray)) (Sum ((List ByteArray) × Int) (List ByteArray))) :=
 if (decide (x4.1<(v4.Tags.length:Int))) then (((if (decide (x4.1 > 0)) then (app 16 x4.2 [(ByteArray.mk #[44])]>>=fun v8 =>
 idx v4.Tags x4.1>>=fun v9 =>
 app 16 v8 [v9]>>=fun v10 =>
 some v10)
 else (idx v4.Tags x4.1>>=fun v11 =>
 app 16 x4.2 [v11]>>=fun v12 =>
 some v12):Option (List ByteArray))>>=fun j5 =>
 some (.inl ((IntKind.i64.wrap (x4.1+1)),j5))))
 else (some (.inr (.inr x4.2)))
noncomputable def zbs (a0:z0i) (x3:(Int × (List ByteArray))):Option (Sum (Int × (List ByteArray)) (Sum ((List ByteArray) × Int) (List ByteArray))) :=
 if (decide (x3.1<(a0.Chans.length:Int))) then (idx a0.Chans x3.1>>=fun v4 =>
 idx [(ByteArray.mk #[98,108,111,99,107]),(ByteArray.mk #[100,114,111,112]),(ByteArray.mk #[108,111,115,115,121])] v4.Kind>>=fun v5 =>
 zcr v4.Size>>=fun v6 =>
 app 16 x3.2 [(ByteArray.mk #[99,104,97,110]),v4.Name,v5,v6,(ByteArray.mk #[102,114,111,109]),v4.From,(ByteArray.mk #[116,111]),v4.To,(ByteArray.mk #[123])]>>=fun v7 =>
 iter (zbr v4) (0,v7)>>=Sum.elim (fun _=>none) (fun j4 =>
 app 16 j4 [(ByteArray.mk #[125]),(ByteArray.mk #[59])]>>=fun v13 =>
 some (.inl ((IntKind.i64.wrap (x3.1+1)),v13))))
 else (some (.inr (.inr x3.2)))
noncomputable def zbt (a0:z0i) (x6:(Int × (List ByteArray))) (x7:(Int × (List ByteArray))):Option (Sum (Int × (List ByteArray)) (Sum ((List ByteArray) × Int) (List ByteArray))) :=
 idx a0.Rules x6.1>>=fun v16 =>
 if (decide (x7.1<(v16.Moves.length:Int))) then (idx a0.Rules x6.1>>=fun v17 =>
 idx v17.Moves x7.1>>=fun v18 =>
 zcr v18.From>>=fun v19 =>
 zcr v18.To>>=fun v20 =>
 app 16 x7.2 [v19,v18.Tag,v20,(ByteArray.mk #[59])]>>=fun v21 =>
 some (.inl ((IntKind.i64.wrap (x7.1+1)),v21)))
 else (some (.inr (.inr x7.2)))
noncomputable def zbu (a0:z0i) (x6:(Int × (List ByteArray))):Option (Sum (Int × (List ByteArray)) (Sum ((List ByteArray) × Int) (List ByteArray))) :=
 if (decide (x6.1<(a0.Rules.length:Int))) then (idx a0.Rules x6.1>>=fun v14 =>
 app 16 x6.2 [(ByteArray.mk #[114,117,108,101]),v14.Chan,(ByteArray.mk #[123])]>>=fun v15 =>
 iter (zbt a0 x6) (0,v15)>>=Sum.elim (fun _=>none) (fun j7 =>
 app 16 j7 [(ByteArray.mk #[125])]>>=fun v22 =>
 some (.inl ((IntKind.i64.wrap (x6.1+1)),v22))))
 else (some (.inr (.inr x6.2)))
noncomputable def zbv (v23:z31) (x9:(Int × (List ByteArray))):Option (Sum (Int × (List ByteArray)) (Sum ((List ByteArray) × Int) (List ByteArray))) :=
 if (decide (x9.1<(v23.Vars.length:Int))) then (idx v23.Vars x9.1>>=fun v25 =>
 app 16 x9.2 [(ByteArray.mk #[118,97,114]),v25,(ByteArray.mk #[59])]>>=fun v26 =>
 some (.inl ((IntKind.i64.wrap (x9.1+1)),v26)))
 else (some (.inr (.inr x9.2)))
noncomputable def zbw (a0:z0i) (x8:(Int × (List ByteArray))):Option (Sum (Int × (List ByteArray)) (Sum ((List ByteArray) × Int) (List ByteArray))) :=
 if (decide (x8.1<(a0.Procs.length:Int))) then (idx a0.Procs x8.1>>=fun v23 =>
 app 16 x8.2 [(ByteArray.mk #[112,114,111,99]),v23.Name,(ByteArray.mk #[123])]>>=fun v24 =>
 iter (zbv v23) (0,v24)>>=Sum.elim (fun _=>none) (fun j9 =>
 zgd v23.Body>>=fun v27 =>
 app 16 j9 v27>>=fun v28 =>
 app 16 v28 [(ByteArray.mk #[125])]>>=fun v29 =>
 some (.inl ((IntKind.i64.wrap (x8.1+1)),v29))))
 else (some (.inr (.inr x8.2)))
noncomputable def zej (a0:z0i):Option ((List ByteArray) × Int) :=
 zhb a0>>=fun v1 =>
 if (!v1) then (some ([],5))
 else (iter (zbq a0) 0>>=Sum.elim (fun r=>some r) (fun j1 =>
 iter (zbs a0) (0,[])>>=Sum.elim (fun _=>none) (fun j3 =>
 iter (zbu a0) (0,j3)>>=Sum.elim (fun _=>none) (fun j6 =>
 iter (zbw a0) (0,j6)>>=Sum.elim (fun _=>none) (fun j8 =>
 if (decide ((j8.length:Int) > 2000)) then (some ([],4))
 else (some (j8,0)))))))
def zge (r:((List ByteArray) × Int)):List XV:=[xL (List.map z1g r.1),xI r.2]
def zn8 (r:((List ByteArray) × Int)):z0p:=[]
noncomputable def zb0 (r:((List ByteArray) × Int)):Tg:=.r false Tryz.f14.results.toList 0 (zge r) (zn8 r)
noncomputable def ze5 (a0:Int):Option Bool :=
 if (decide (a0≥97)) then (some (decide (a0≤122)))
 else (some false)
def zd8 (r:Bool):List XV:=[xB r]
def zry (r:Bool):z0p:=[]
noncomputable def zfk (a0:Int):Option Bool :=
 if (decide (a0≥48)) then (some (decide (a0≤57)))
 else (some false)
def zgf (r:Bool):List XV:=[xB r]
def ztp (r:Bool):z0p:=[]
noncomputable def zcs (a0:ByteArray) (x1:Int):Option (Sum Int (Sum Int Int)) :=
 ((if (decide (x1<(a0.size:Int))) then (bidx a0 x1>>=fun v1 =>
 ze5 v1>>=fun v2 =>
 if v2 then (some true)
 else (bidx a0 x1>>=fun v3 =>
 zfk v3>>=fun v4 =>
 some v4))
 else (some false):Option Bool)>>=fun j2 =>
 if j2 then (some (.inl (IntKind.i64.wrap (x1+1))))
 else (some (.inr (.inr x1))))
noncomputable def zl7 (a0:ByteArray):Option Int :=
 iter (zcs a0) 0>>=Sum.elim (fun _=>none) (fun j1 =>
 some j1)
def zhe (r:Int):List XV:=[xI r]
def zrz (r:Int):z0p:=[]
noncomputable def z003 (r:Int):Tg:=.r false Tryz.f92.results.toList 0 (zhe r) (zrz r)
noncomputable def zd9 (a0:ByteArray):Option Bool :=
 if (a0.toList==(ByteArray.mk #[99,104,97,110]).toList) then (some true)
 else (if (a0.toList==(ByteArray.mk #[98,108,111,99,107]).toList) then (some true)
 else (if (a0.toList==(ByteArray.mk #[100,114,111,112]).toList) then (some true)
 else (if (a0.toList==(ByteArray.mk #[108,111,115,115,121]).toList) then (some true)
 else (if (a0.toList==(ByteArray.mk #[102,114,111,109]).toList) then (some true)
 else (if (a0.toList==(ByteArray.mk #[116,111]).toList) then (some true)
 else (if (a0.toList==(ByteArray.mk #[114,117,108,101]).toList) then (some true)
 else (if (a0.toList==(ByteArray.mk #[112,114,111,99]).toList) then (some true)
 else (if (a0.toList==(ByteArray.mk #[118,97,114]).toList) then (some true)
 else (if (a0.toList==(ByteArray.mk #[105,102]).toList) then (some true)
 else (if (a0.toList==(ByteArray.mk #[101,108,115,101]).toList) then (some true)
 else (if (a0.toList==(ByteArray.mk #[119,104,105,108,101]).toList) then (some true)
 else (if (a0.toList==(ByteArray.mk #[115,101,110,100]).toList) then (some true)
 else (if (a0.toList==(ByteArray.mk #[114,101,99,118]).toList) then (some true)
 else (if (a0.toList==(ByteArray.mk #[97,115,115,101,114,116]).toList) then (some true)
 else (if (a0.toList==(ByteArray.mk #[105,110,112,117,116]).toList) then (some true)
 else (some false))))))))))))))))
def zfb (r:Bool):List XV:=[xB r]
def zo7 (r:Bool):z0p:=[]
noncomputable def zfl (a0:ByteArray):Option (z0g × Int) :=
 if (decide ((a0.size:Int) > 12)) then (some ((z0g.mk 0 (ByteArray.mk #[]) 0 0),3))
 else (zd9 a0>>=fun v1 =>
 if v1 then (some ((z0g.mk 4 a0 0 0),0))
 else (some ((z0g.mk 1 a0 0 0),0)))
def zje (r:(z0g × Int)):List XV:=[.agg (bs (z2b r.1)),xI r.2]
def ztq (r:(z0g × Int)):z0p:=[]
def zw1 (r:(Int × Int)):List XV:=[xI r.1,xI r.2]
def ztr (r:Int):List XV:=[xI r]
noncomputable def zka (a0:ByteArray):Option Int :=
 ((if (decide ((a0.size:Int) > 1)) then (bidx a0 1>>=fun v1 =>
 if (v1==61) then (bidx a0 0>>=fun v2 =>
 zts (ByteArray.mk #[61,33,60,62]) v2>>=fun v3 =>
 some (decide (v3≥0)))
 else (some false))
 else (some false):Option Bool)>>=fun j1 =>
 if j1 then (some 2)
 else (bidx a0 0>>=fun v4 =>
 zts (ByteArray.mk #[123,125,40,41,59,44,46,61,60,62,43,45,42,47,37]) v4>>=fun v5 =>
 if (decide (v5≥0)) then (some 1)
 else (some 0)))
def zl8 (r:Int):List XV:=[xI r]
def zxt (r:Int):z0p:=[]
noncomputable def zgg (a0:ByteArray):Option (z0g × Int) :=
 bidx a0 0>>=fun v1 =>
 ze5 v1>>=fun v2 =>
 if v2 then (zl7 a0>>=fun v3 =>
 ssub a0 0 v3>>=fun v4 =>
 zfl v4>>=fun v5 =>
 some (v5.1,v5.2))
 else (bidx a0 0>>=fun v6 =>
 zfk v6>>=fun v7 =>
 if v7 then (zl7 a0>>=fun v8 =>
 ssub a0 0 v8>>=fun v9 =>
 zn9 v9>>=fun v10 =>
 some ((z0g.mk 2 v9 v10.1 0),v10.2))
 else (zka a0>>=fun v11 =>
 if (v11==0) then (some ((z0g.mk 0 (ByteArray.mk #[]) 0 0),2))
 else (ssub a0 0 v11>>=fun v12 =>
 some ((z0g.mk 3 v12 0 0),0))))
def zl9 (r:(z0g × Int)):List XV:=[.agg (bs (z2b r.1)),xI r.2]
def zxu (r:(z0g × Int)):z0p:=[]
noncomputable def zct (a0:ByteArray) (x1:(Int × (List z0g))):Option (Sum (Int × (List z0g)) (Sum ((List z0g) × Int × Int) (List z0g))) :=
 if (decide (x1.1<(a0.size:Int))) then (((bidx a0 x1.1>>=fun v1 =>
 if (v1==32) then (some true)
 else (bidx a0 x1.1>>=fun v2 =>
 some (v2==10)):Option Bool)>>=fun j2 =>
 if j2 then (some (.inl ((IntKind.i64.wrap (x1.1+1)),x1.2)))
 else (ssub a0 x1.1 (a0.size:Int)>>=fun v3 =>
 zgg v3>>=fun v4 =>
 if (v4.2 != 0) then (some (.inr (.inl ([],x1.1,v4.2))))
 else (app 40 x1.2 [(z0g.mk v4.1.Kind v4.1.Text v4.1.Num x1.1)]>>=fun v5 =>
 some (.inl ((IntKind.i64.wrap (x1.1+(v4.1.Text.size:Int))),v5))))))
 else (some (.inr (.inr x1.2)))
noncomputable def zjf (a0:ByteArray):Option ((List z0g) × Int × Int) :=
 iter (zct a0) (0,[])>>=Sum.elim (fun r=>some r) (fun j1 =>
 if (decide ((j1.length:Int) > 2000)) then (some ([],(a0.size:Int),4))
 else (some (j1,0,0)))
def zkb (r:((List z0g) × Int × Int)):List XV:=[xL (List.map z2b r.1),xI r.2.1,xI r.2.2]
def zs0 (r:((List z0g) × Int × Int)):z0p:=[]
noncomputable def z004 (r:((List z0g) × Int × Int)):Tg:=.r false Tryz.f19.results.toList 0 (zkb r) (zs0 r)
noncomputable def z3e (a0:z00) (a1:ByteArray):Option Bool :=
 if (a0.f_e==0) then (if (decide ((a0.f_l.length:Int) > 0)) then (idx a0.f_l 0>>=fun v1 =>
 if (decide (v1.Kind≥3)) then (idx a0.f_l 0>>=fun v2 =>
 some (v2.Text.toList==a1.toList))
 else (some false))
 else (some false))
 else (some false)
def z58 (r:Bool):List XV:=[xB r]
def z59 (a0:z00) (r:Bool):z0p:=[oB 71 (bs (z02 a0))]
noncomputable def z0j (a0:z00) (a1:ByteArray):Option (z00 × Bool) :=
 z3e a0 a1>>=fun v1 =>
 if (!v1) then (some (a0,false))
 else (lsub a0.f_l 1 (a0.f_l.length:Int)>>=fun v2 =>
 some ((z00.mk v2 a0.f_end a0.f_e a0.f_at a0.f_deep a0.f_in),true))
def z2q (r:(z00 × Bool)):List XV:=[xB r.2]
def z2r (r:(z00 × Bool)):z0p:=[oB 71 (bs (z02 r.1))]
noncomputable def z6f (a0:z00) (a1:Int):Option Bool :=
 if (a0.f_e==0) then (if (decide ((a0.f_l.length:Int) > 0)) then (idx a0.f_l 0>>=fun v1 =>
 some (v1.Kind==a1))
 else (some false))
 else (some false)
def za6 (r:Bool):List XV:=[xB r]
def za7 (a0:z00) (r:Bool):z0p:=[oB 71 (bs (z02 a0))]
noncomputable def z2f (a0:z00) (a1:Int):Option z00 :=
 if (a0.f_e != 0) then (some a0)
 else (if (decide ((a0.f_l.length:Int) > 0)) then (idx a0.f_l 0>>=fun v1 =>
 some (z00.mk a0.f_l a0.f_end a1 v1.At a0.f_deep a0.f_in))
 else (some (z00.mk a0.f_l a0.f_end a1 a0.f_end a0.f_deep a0.f_in)))
def z5a (r:z00):List XV:=[]
def z5b (r:z00):z0p:=[oB 71 (bs (z02 r))]
noncomputable def z65 (a0:z00) (a1:Int):Option (z00 × z0g) :=
 z6f a0 a1>>=fun v1 =>
 if (!v1) then (z2f a0 5>>=fun v2 =>
 some (v2,(z0g.mk 0 (ByteArray.mk #[]) 0 0)))
 else (idx a0.f_l 0>>=fun v3 =>
 lsub a0.f_l 1 (a0.f_l.length:Int)>>=fun v4 =>
 some ((z00.mk v4 a0.f_end a0.f_e a0.f_at a0.f_deep a0.f_in),v3))
def zb1 (r:(z00 × z0g)):List XV:=[.agg (bs (z2b r.2))]
def zb2 (r:(z00 × z0g)):z0p:=[oB 71 (bs (z02 r.1))]
noncomputable def z0h (a0:z00):Option (z00 × ByteArray) :=
 z65 a0 1>>=fun v1 =>
 some (v1.1,v1.2.Text)
def z1z (r:(z00 × ByteArray)):List XV:=[xS r.2]
def z22 (r:(z00 × ByteArray)):z0p:=[oB 71 (bs (z02 r.1))]
noncomputable def z0o (a0:(List ByteArray)) (x1:(Int × (List z0g) × Int × Int × Int × Int × Int)):Option (Sum (Int × (List z0g) × Int × Int × Int × Int × Int) (Sum (z00 × Int) ((List z0g) × Int × Int × Int × Int × Int))) :=
 if (decide (x1.1<(a0.length:Int))) then (idx a0 x1.1>>=fun v1 =>
 z0j (z00.mk x1.2.1 x1.2.2.1 x1.2.2.2.1 x1.2.2.2.2.1 x1.2.2.2.2.2.1 x1.2.2.2.2.2.2) v1>>=fun v2 =>
 if v2.2 then (some (.inr (.inl (v2.1,x1.1))))
 else (some (.inl ((IntKind.i64.wrap (x1.1+1)),v2.1.f_l,v2.1.f_end,v2.1.f_e,v2.1.f_at,v2.1.f_deep,v2.1.f_in))))
 else (some (.inr (.inr (x1.2.1,x1.2.2.1,x1.2.2.2.1,x1.2.2.2.2.1,x1.2.2.2.2.2.1,x1.2.2.2.2.2.2))))
noncomputable def z2d (a0:(List ByteArray)) (a1010:z00):Option (z00 × Int) :=
 iter (z0o a0) (0,a1010.f_l,a1010.f_end,a1010.f_e,a1010.f_at,a1010.f_deep,a1010.f_in)>>=Sum.elim (fun r=>some r) (fun j1 =>
 some ((z00.mk j1.1 j1.2.1 j1.2.2.1 j1.2.2.2.1 j1.2.2.2.2.1 j1.2.2.2.2.2),(-1)))
def z3u (r:(z00 × Int)):List XV:=[xI r.2]
def z3v (r:(z00 × Int)):z0p:=[oB 71 (bs (z02 r.1))]
noncomputable def z7z (r:(z00 × Int)):Tg:=.r false Tryz.f97.results.toList 1 (z3u r) (z3v r)
noncomputable def z1u (a0:z00) (a1:(List ByteArray)):Option (z00 × Int) :=
 z2d a1 a0>>=fun v1 =>
 some (v1.1,v1.2)
def z7g (r:(z00 × Int)):List XV:=[xI r.2]
def z7h (r:(z00 × Int)):z0p:=[oB 71 (bs (z02 r.1))]
noncomputable def z28 (a0:z00):Option (z00 × Int) :=
 z65 a0 2>>=fun v1 =>
 some (v1.1,v1.2.Num)
def z6z (r:(z00 × Int)):List XV:=[xI r.2]
def z71 (r:(z00 × Int)):z0p:=[oB 71 (bs (z02 r.1))]
noncomputable def z08 (a0:z00) (a1:ByteArray):Option z00 :=
 z0j a0 a1>>=fun v1 =>
 if (!v1.2) then (z2f v1.1 5>>=fun v2 =>
 some v2)
 else (some v1.1)
def z0s (r:z00):List XV:=[]
def z0t (r:z00):z0p:=[oB 71 (bs (z02 r))]
noncomputable def z2c (x1:((List z0g) × Int × Int × Int × Int × Int × (List ByteArray))):Option (Sum ((List z0g) × Int × Int × Int × Int × Int × (List ByteArray)) (Sum (z00 × z39) ((List z0g) × Int × Int × Int × Int × Int × (List ByteArray)))) :=
 z0j (z00.mk x1.1 x1.2.1 x1.2.2.1 x1.2.2.2.1 x1.2.2.2.2.1 x1.2.2.2.2.2.1) (ByteArray.mk #[44])>>=fun v12 =>
 if v12.2 then (z0h v12.1>>=fun v13 =>
 app 16 x1.2.2.2.2.2.2 [v13.2]>>=fun v14 =>
 some (.inl (v13.1.f_l,v13.1.f_end,v13.1.f_e,v13.1.f_at,v13.1.f_deep,v13.1.f_in,v14)))
 else (some (.inr (.inr (v12.1.f_l,v12.1.f_end,v12.1.f_e,v12.1.f_at,v12.1.f_deep,v12.1.f_in,x1.2.2.2.2.2.2))))
noncomputable def z6h (a0:z00):Option (z00 × z39) :=
 z0h a0>>=fun v1 =>
 z1u v1.1 [(ByteArray.mk #[98,108,111,99,107]),(ByteArray.mk #[100,114,111,112]),(ByteArray.mk #[108,111,115,115,121])]>>=fun v2 =>
 if (decide (v2.2<0)) then (z2f v2.1 5>>=fun v3 =>
 some (v3,(z39.mk v1.2 v2.2 0 (ByteArray.mk #[]) (ByteArray.mk #[]) [])))
 else (z28 v2.1>>=fun v4 =>
 z08 v4.1 (ByteArray.mk #[102,114,111,109])>>=fun v5 =>
 z0h v5>>=fun v6 =>
 z08 v6.1 (ByteArray.mk #[116,111])>>=fun v7 =>
 z0h v7>>=fun v8 =>
 z08 v8.1 (ByteArray.mk #[123])>>=fun v9 =>
 z0h v9>>=fun v10 =>
 app 16 [] [v10.2]>>=fun v11 =>
 iter (z2c) (v10.1.f_l,v10.1.f_end,v10.1.f_e,v10.1.f_at,v10.1.f_deep,v10.1.f_in,v11)>>=Sum.elim (fun _=>none) (fun j1 =>
 z08 (z00.mk j1.1 j1.2.1 j1.2.2.1 j1.2.2.2.1 j1.2.2.2.2.1 j1.2.2.2.2.2.1) (ByteArray.mk #[125])>>=fun v15 =>
 z08 v15 (ByteArray.mk #[59])>>=fun v16 =>
 some (v16,(z39.mk v1.2 v2.2 v4.2 v6.2 v8.2 j1.2.2.2.2.2.2))))
def z9j (r:(z00 × z39)):List XV:=[.agg (bs (z2o r.2))]
def z9k (r:(z00 × z39)):z0p:=[oB 71 (bs (z02 r.1))]
noncomputable def zgu (r:(z00 × z39)):Tg:=.r false Tryz.f21.results.toList 1 (z9j r) (z9k r)
noncomputable def z3m (x1:((List z0g) × Int × Int × Int × Int × Int × (List z4j))):Option (Sum ((List z0g) × Int × Int × Int × Int × Int × (List z4j)) (Sum (z00 × z3g) ((List z0g) × Int × Int × Int × Int × Int × (List z4j)))) :=
 ((if (x1.2.2.1==0) then (z3e (z00.mk x1.1 x1.2.1 x1.2.2.1 x1.2.2.2.1 x1.2.2.2.2.1 x1.2.2.2.2.2.1) (ByteArray.mk #[125])>>=fun v3 =>
 some (!v3))
 else (some false):Option Bool)>>=fun j2 =>
 if j2 then (z28 (z00.mk x1.1 x1.2.1 x1.2.2.1 x1.2.2.2.1 x1.2.2.2.2.1 x1.2.2.2.2.2.1)>>=fun v4 =>
 z0h v4.1>>=fun v5 =>
 z28 v5.1>>=fun v6 =>
 z08 v6.1 (ByteArray.mk #[59])>>=fun v7 =>
 app 32 x1.2.2.2.2.2.2 [(z4j.mk v4.2 v5.2 v6.2)]>>=fun v8 =>
 some (.inl (v7.f_l,v7.f_end,v7.f_e,v7.f_at,v7.f_deep,v7.f_in,v8)))
 else (some (.inr (.inr (x1.1,x1.2.1,x1.2.2.1,x1.2.2.2.1,x1.2.2.2.2.1,x1.2.2.2.2.2.1,x1.2.2.2.2.2.2)))))
noncomputable def z7t (a0:z00):Option (z00 × z3g) :=
 z0h a0>>=fun v1 =>
 z08 v1.1 (ByteArray.mk #[123])>>=fun v2 =>
 iter (z3m) (v2.f_l,v2.f_end,v2.f_e,v2.f_at,v2.f_deep,v2.f_in,[])>>=Sum.elim (fun _=>none) (fun j1 =>
 z08 (z00.mk j1.1 j1.2.1 j1.2.2.1 j1.2.2.2.1 j1.2.2.2.2.1 j1.2.2.2.2.2.1) (ByteArray.mk #[125])>>=fun v9 =>
 some (v9,(z3g.mk v1.2 j1.2.2.2.2.2.2)))
def zb3 (r:(z00 × z3g)):List XV:=[.agg (bs (z3c r.2))]
def zb4 (r:(z00 × z3g)):z0p:=[oB 71 (bs (z02 r.1))]
noncomputable def zjg (r:(z00 × z3g)):Tg:=.r false Tryz.f22.results.toList 1 (zb3 r) (zb4 r)
noncomputable def z77 (a0:z00):Option (z00 × Bool) :=
 if (a0.f_deep==24) then (z2f a0 6>>=fun v1 =>
 some (v1,false))
 else (some ((z00.mk a0.f_l a0.f_end a0.f_e a0.f_at (IntKind.i64.wrap (a0.f_deep+1)) a0.f_in),true))
def zaj (r:(z00 × Bool)):List XV:=[xB r.2]
def zak (r:(z00 × Bool)):z0p:=[oB 71 (bs (z02 r.1))]
def z2s (r:(z00 × z06)):List XV:=[.agg (bs (z3d r.2))]
def z2t (r:(z00 × z06)):z0p:=[oB 71 (bs (z02 r.1))]
noncomputable def z2x (F_parse_reader_expr:z00→Option (z00 × z06)) (F_parse_reader_chain_parse_reader_term:z00→(List ByteArray)→Int→Option (z00 × z06)) (F_parse_reader_term:z00→Option (z00 × z06)) (F_parse_reader_chain_parse_reader_factor:z00→(List ByteArray)→Int→Option (z00 × z06)) (F_parse_reader_factor:z00→Option (z00 × z06)) (F_parse_reader_negated:z00→Option (z00 × z06)) (F_parse_reader_parens:z00→Option (z00 × z06)) (a2:(List ByteArray)) (a3:Int) (x1:((List z0g) × Int × Int × Int × Int × Int × Int × Int × ByteArray × (List z06))):Option (Sum ((List z0g) × Int × Int × Int × Int × Int × Int × Int × ByteArray × (List z06)) (Sum (z00 × z06) ((List z0g) × Int × Int × Int × Int × Int × Int × Int × ByteArray × (List z06)))) :=
 if (x1.2.2.1==0) then (z1u (z00.mk x1.1 x1.2.1 x1.2.2.1 x1.2.2.2.1 x1.2.2.2.2.1 x1.2.2.2.2.2.1) a2>>=fun v2 =>
 if (decide (v2.2<0)) then (some (.inr (.inr (v2.1.f_l,v2.1.f_end,v2.1.f_e,v2.1.f_at,v2.1.f_deep,v2.1.f_in,x1.2.2.2.2.2.2.1,x1.2.2.2.2.2.2.2.1,x1.2.2.2.2.2.2.2.2.1,x1.2.2.2.2.2.2.2.2.2))))
 else (F_parse_reader_term v2.1>>=fun v3 =>
 some (.inl (v3.1.f_l,v3.1.f_end,v3.1.f_e,v3.1.f_at,v3.1.f_deep,v3.1.f_in,(IntKind.i64.wrap (a3+v2.2)),0,(ByteArray.mk #[]),[(z06.mk x1.2.2.2.2.2.2.1 x1.2.2.2.2.2.2.2.1 x1.2.2.2.2.2.2.2.2.1 x1.2.2.2.2.2.2.2.2.2),v3.2]))))
 else (some (.inr (.inr (x1.1,x1.2.1,x1.2.2.1,x1.2.2.2.1,x1.2.2.2.2.1,x1.2.2.2.2.2.1,x1.2.2.2.2.2.2.1,x1.2.2.2.2.2.2.2.1,x1.2.2.2.2.2.2.2.2.1,x1.2.2.2.2.2.2.2.2.2))))
def z17 (r:(z00 × z06)):List XV:=[.agg (bs (z3d r.2))]
def z18 (r:(z00 × z06)):z0p:=[oB 71 (bs (z02 r.1))]
noncomputable def za8 (r:(z00 × z06)):Tg:=.r false Tryz.f160.results.toList 1 (z17 r) (z18 r)
def z3w (r:(z00 × z06)):List XV:=[.agg (bs (z3d r.2))]
def z3x (r:(z00 × z06)):z0p:=[oB 71 (bs (z02 r.1))]
noncomputable def z2g (F_parse_reader_expr:z00→Option (z00 × z06)) (F_parse_reader_chain_parse_reader_term:z00→(List ByteArray)→Int→Option (z00 × z06)) (F_parse_reader_term:z00→Option (z00 × z06)) (F_parse_reader_chain_parse_reader_factor:z00→(List ByteArray)→Int→Option (z00 × z06)) (F_parse_reader_factor:z00→Option (z00 × z06)) (F_parse_reader_negated:z00→Option (z00 × z06)) (F_parse_reader_parens:z00→Option (z00 × z06)) (a2:(List ByteArray)) (a3:Int) (x1:((List z0g) × Int × Int × Int × Int × Int × Int × Int × ByteArray × (List z06))):Option (Sum ((List z0g) × Int × Int × Int × Int × Int × Int × Int × ByteArray × (List z06)) (Sum (z00 × z06) ((List z0g) × Int × Int × Int × Int × Int × Int × Int × ByteArray × (List z06)))) :=
 if (x1.2.2.1==0) then (z1u (z00.mk x1.1 x1.2.1 x1.2.2.1 x1.2.2.2.1 x1.2.2.2.2.1 x1.2.2.2.2.2.1) a2>>=fun v2 =>
 if (decide (v2.2<0)) then (some (.inr (.inr (v2.1.f_l,v2.1.f_end,v2.1.f_e,v2.1.f_at,v2.1.f_deep,v2.1.f_in,x1.2.2.2.2.2.2.1,x1.2.2.2.2.2.2.2.1,x1.2.2.2.2.2.2.2.2.1,x1.2.2.2.2.2.2.2.2.2))))
 else (F_parse_reader_factor v2.1>>=fun v3 =>
 some (.inl (v3.1.f_l,v3.1.f_end,v3.1.f_e,v3.1.f_at,v3.1.f_deep,v3.1.f_in,(IntKind.i64.wrap (a3+v2.2)),0,(ByteArray.mk #[]),[(z06.mk x1.2.2.2.2.2.2.1 x1.2.2.2.2.2.2.2.1 x1.2.2.2.2.2.2.2.2.1 x1.2.2.2.2.2.2.2.2.2),v3.2]))))
 else (some (.inr (.inr (x1.1,x1.2.1,x1.2.2.1,x1.2.2.2.1,x1.2.2.2.2.1,x1.2.2.2.2.2.1,x1.2.2.2.2.2.2.1,x1.2.2.2.2.2.2.2.1,x1.2.2.2.2.2.2.2.2.1,x1.2.2.2.2.2.2.2.2.2))))
def z10 (r:(z00 × z06)):List XV:=[.agg (bs (z3d r.2))]
def z11 (r:(z00 × z06)):z0p:=[oB 71 (bs (z02 r.1))]
noncomputable def z9n (r:(z00 × z06)):Tg:=.r false Tryz.f160.results.toList 1 (z10 r) (z11 r)
def z3a (r:(z00 × z06)):List XV:=[.agg (bs (z3d r.2))]
def z3b (r:(z00 × z06)):z0p:=[oB 71 (bs (z02 r.1))]
def z3j (r:(z00 × z06)):List XV:=[.agg (bs (z3d r.2))]
def z3k (r:(z00 × z06)):z0p:=[oB 71 (bs (z02 r.1))]
def z3q (r:(z00 × z06)):List XV:=[.agg (bs (z3d r.2))]
def z3r (r:(z00 × z06)):z0p:=[oB 71 (bs (z02 r.1))]
mutual
noncomputable def z1i:Nat→z00→Option (z00 × z06)
  | 0,_=>none
  | n+1,a0=>(z0d n) a0 [(ByteArray.mk #[43]),(ByteArray.mk #[45])] 4>>=fun v1 =>
 some (v1.1,v1.2)
noncomputable def z0d:Nat→z00→(List ByteArray)→Int→Option (z00 × z06)
  | 0,_,_,_=>none
  | n+1,a0,a2,a3=>(z1e n) a0>>=fun v1 =>
 iter (z2x (z1i n) (z0d n) (z1e n) (z0b n) (z0m n) (z1f n) (z1j n) a2 a3) (v1.1.f_l,v1.1.f_end,v1.1.f_e,v1.1.f_at,v1.1.f_deep,v1.1.f_in,v1.2.Kind,v1.2.Num,v1.2.Name,v1.2.Kids)>>=Sum.elim (fun _=>none) (fun j1 =>
 some ((z00.mk j1.1 j1.2.1 j1.2.2.1 j1.2.2.2.1 j1.2.2.2.2.1 j1.2.2.2.2.2.1),(z06.mk j1.2.2.2.2.2.2.1 j1.2.2.2.2.2.2.2.1 j1.2.2.2.2.2.2.2.2.1 j1.2.2.2.2.2.2.2.2.2)))
noncomputable def z1e:Nat→z00→Option (z00 × z06)
  | 0,_=>none
  | n+1,a0=>(z0b n) a0 [(ByteArray.mk #[42]),(ByteArray.mk #[47]),(ByteArray.mk #[37])] 6>>=fun v1 =>
 some (v1.1,v1.2)
noncomputable def z0b:Nat→z00→(List ByteArray)→Int→Option (z00 × z06)
  | 0,_,_,_=>none
  | n+1,a0,a2,a3=>(z0m n) a0>>=fun v1 =>
 iter (z2g (z1i n) (z0d n) (z1e n) (z0b n) (z0m n) (z1f n) (z1j n) a2 a3) (v1.1.f_l,v1.1.f_end,v1.1.f_e,v1.1.f_at,v1.1.f_deep,v1.1.f_in,v1.2.Kind,v1.2.Num,v1.2.Name,v1.2.Kids)>>=Sum.elim (fun _=>none) (fun j1 =>
 some ((z00.mk j1.1 j1.2.1 j1.2.2.1 j1.2.2.2.1 j1.2.2.2.2.1 j1.2.2.2.2.2.1),(z06.mk j1.2.2.2.2.2.2.1 j1.2.2.2.2.2.2.2.1 j1.2.2.2.2.2.2.2.2.1 j1.2.2.2.2.2.2.2.2.2)))
noncomputable def z0m:Nat→z00→Option (z00 × z06)
  | 0,_=>none
  | n+1,a0=>z3e a0 (ByteArray.mk #[45])>>=fun v1 =>
 if v1 then ((z1f n) a0>>=fun v2 =>
 some (v2.1,v2.2))
 else (z3e a0 (ByteArray.mk #[40])>>=fun v3 =>
 if v3 then ((z1j n) a0>>=fun v4 =>
 some (v4.1,v4.2))
 else (z6f a0 2>>=fun v5 =>
 if v5 then (z28 a0>>=fun v6 =>
 some (v6.1,(z06.mk 1 v6.2 (ByteArray.mk #[]) [])))
 else (z0h a0>>=fun v7 =>
 some (v7.1,(z06.mk 2 0 v7.2 [])))))
noncomputable def z1f:Nat→z00→Option (z00 × z06)
  | 0,_=>none
  | n+1,a0=>z77 a0>>=fun v1 =>
 if (!v1.2) then (some (v1.1,(z06.mk 0 0 (ByteArray.mk #[]) [])))
 else (z08 v1.1 (ByteArray.mk #[45])>>=fun v2 =>
 (z0m n) v2>>=fun v3 =>
 some ((z00.mk v3.1.f_l v3.1.f_end v3.1.f_e v3.1.f_at (IntKind.i64.wrap (v3.1.f_deep - 1)) v3.1.f_in),(z06.mk 3 0 (ByteArray.mk #[]) [v3.2])))
noncomputable def z1j:Nat→z00→Option (z00 × z06)
  | 0,_=>none
  | n+1,a0=>z77 a0>>=fun v1 =>
 if (!v1.2) then (some (v1.1,(z06.mk 0 0 (ByteArray.mk #[]) [])))
 else (z08 v1.1 (ByteArray.mk #[40])>>=fun v2 =>
 (z1i n) v2>>=fun v3 =>
 z08 v3.1 (ByteArray.mk #[41])>>=fun v4 =>
 some ((z00.mk v4.f_l v4.f_end v4.f_e v4.f_at (IntKind.i64.wrap (v4.f_deep - 1)) v4.f_in),v3.2))
end
noncomputable def z5j (a0:z00):Option (z00 × z06):=unf fun n=>z1i n a0
noncomputable def z7u (a0:z00):Option (z00 × z05) :=
 z0h a0>>=fun v1 =>
 z08 v1.1 (ByteArray.mk #[46])>>=fun v2 =>
 z0h v2>>=fun v3 =>
 z08 v3.1 (ByteArray.mk #[40])>>=fun v4 =>
 z5j v4>>=fun v5 =>
 z08 v5.1 (ByteArray.mk #[41])>>=fun v6 =>
 z08 v6 (ByteArray.mk #[59])>>=fun v7 =>
 some (v7,(z05.mk 4 v1.2 v3.2 v5.2 (z3t.mk 0 (z06.mk 0 0 (ByteArray.mk #[]) []) (z06.mk 0 0 (ByteArray.mk #[]) [])) [] [] []))
def zek (r:(z00 × z05)):List XV:=[.agg (bs (z2p r.2))]
def zel (r:(z00 × z05)):z0p:=[oB 71 (bs (z02 r.1))]
noncomputable def z5k (a0:z00):Option (z00 × z3t) :=
 z08 a0 (ByteArray.mk #[40])>>=fun v1 =>
 z5j v1>>=fun v2 =>
 z1u v2.1 [(ByteArray.mk #[61,61]),(ByteArray.mk #[33,61]),(ByteArray.mk #[60]),(ByteArray.mk #[60,61]),(ByteArray.mk #[62]),(ByteArray.mk #[62,61])]>>=fun v3 =>
 if (decide (v3.2<0)) then (z2f v3.1 5>>=fun v4 =>
 some (v4,(z3t.mk 0 v2.2 (z06.mk 0 0 (ByteArray.mk #[]) []))))
 else (z5j v3.1>>=fun v5 =>
 z08 v5.1 (ByteArray.mk #[41])>>=fun v6 =>
 some (v6,(z3t.mk (IntKind.i64.wrap (1+v3.2)) v2.2 v5.2)))
def z97 (r:(z00 × z3t)):List XV:=[.agg (bs (ze4 r.2))]
def z98 (r:(z00 × z3t)):z0p:=[oB 71 (bs (z02 r.1))]
noncomputable def z6p (a0:z00):Option (z00 × z05) :=
 z5k a0>>=fun v1 =>
 z08 v1.1 (ByteArray.mk #[59])>>=fun v2 =>
 some (v2,(z05.mk 6 (ByteArray.mk #[]) (ByteArray.mk #[]) (z06.mk 0 0 (ByteArray.mk #[]) []) v1.2 [] [] []))
def zda (r:(z00 × z05)):List XV:=[.agg (bs (z2p r.2))]
def zdb (r:(z00 × z05)):z0p:=[oB 71 (bs (z02 r.1))]
noncomputable def z78 (a0:z00):Option (z00 × z05) :=
 z0h a0>>=fun v1 =>
 z08 v1.1 (ByteArray.mk #[59])>>=fun v2 =>
 some (v2,(z05.mk 7 v1.2 (ByteArray.mk #[]) (z06.mk 0 0 (ByteArray.mk #[]) []) (z3t.mk 0 (z06.mk 0 0 (ByteArray.mk #[]) []) (z06.mk 0 0 (ByteArray.mk #[]) [])) [] [] []))
def zdq (r:(z00 × z05)):List XV:=[.agg (bs (z2p r.2))]
def zdr (r:(z00 × z05)):z0p:=[oB 71 (bs (z02 r.1))]
noncomputable def z6q (a0:z00):Option (z00 × z05) :=
 z0h a0>>=fun v1 =>
 z08 v1.1 (ByteArray.mk #[61])>>=fun v2 =>
 z5j v2>>=fun v3 =>
 z08 v3.1 (ByteArray.mk #[59])>>=fun v4 =>
 some (v4,(z05.mk 1 v1.2 (ByteArray.mk #[]) v3.2 (z3t.mk 0 (z06.mk 0 0 (ByteArray.mk #[]) []) (z06.mk 0 0 (ByteArray.mk #[]) [])) [] [] []))
def zdc (r:(z00 × z05)):List XV:=[.agg (bs (z2p r.2))]
def zdd (r:(z00 × z05)):z0p:=[oB 71 (bs (z02 r.1))]
noncomputable def z8i (F_parse_reader_stmts:z00→Option (z00 × (List z05))) (F_parse_reader_stmt:z00→Option (z00 × z05 × Bool)) (F_parse_reader_conditional:z00→Option (z00 × z05)) (F_parse_reader_loop:z00→Option (z00 × z05)) (F_parse_reader_recv:z00→Option (z00 × z05)) (F_parse_reader_block:z00→Option (z00 × (List z05))) (F_parse_reader_arm:z00→Option (z00 × z0y)) (x1:((List z0g) × Int × Int × Int × Int × Int × (List z05))):Option (Sum ((List z0g) × Int × Int × Int × Int × Int × (List z05)) (Sum (z00 × (List z05)) Unit)) :=
 F_parse_reader_stmt (z00.mk x1.1 x1.2.1 x1.2.2.1 x1.2.2.2.1 x1.2.2.2.2.1 x1.2.2.2.2.2.1)>>=fun v1 =>
 if (!v1.2.2) then (some (.inr (.inl (v1.1,x1.2.2.2.2.2.2))))
 else (app 288 x1.2.2.2.2.2.2 [v1.2.1]>>=fun v2 =>
 some (.inl (v1.1.f_l,v1.1.f_end,v1.1.f_e,v1.1.f_at,v1.1.f_deep,v1.1.f_in,v2)))
def z34 (r:(z00 × (List z05))):List XV:=[xL (List.map z16 r.2)]
def z35 (r:(z00 × (List z05))):z0p:=[oB 71 (bs (z02 r.1))]
noncomputable def zii (r:(z00 × (List z05))):Tg:=.r false Tryz.f61.results.toList 1 (z34 r) (z35 r)
def z4e (r:(z00 × z05 × Bool)):List XV:=[.agg (bs (z2p r.2.1)),xB r.2.2]
def z4f (r:(z00 × z05 × Bool)):z0p:=[oB 71 (bs (z02 r.1))]
def z2u (r:(z00 × z05)):List XV:=[.agg (bs (z2p r.2))]
def z2v (r:(z00 × z05)):z0p:=[oB 71 (bs (z02 r.1))]
def z4g (r:(z00 × z05)):List XV:=[.agg (bs (z2p r.2))]
def z4h (r:(z00 × z05)):z0p:=[oB 71 (bs (z02 r.1))]
noncomputable def z6i (F_parse_reader_stmts:z00→Option (z00 × (List z05))) (F_parse_reader_stmt:z00→Option (z00 × z05 × Bool)) (F_parse_reader_conditional:z00→Option (z00 × z05)) (F_parse_reader_loop:z00→Option (z00 × z05)) (F_parse_reader_recv:z00→Option (z00 × z05)) (F_parse_reader_block:z00→Option (z00 × (List z05))) (F_parse_reader_arm:z00→Option (z00 × z0y)) (x1:((List z0g) × Int × Int × Int × Int × Int × (List z0y))):Option (Sum ((List z0g) × Int × Int × Int × Int × Int × (List z0y)) (Sum (z00 × z05) ((List z0g) × Int × Int × Int × Int × Int × (List z0y)))) :=
 ((if (x1.2.2.1==0) then (z3e (z00.mk x1.1 x1.2.1 x1.2.2.1 x1.2.2.2.1 x1.2.2.2.2.1 x1.2.2.2.2.2.1) (ByteArray.mk #[125])>>=fun v5 =>
 some (!v5))
 else (some false):Option Bool)>>=fun j2 =>
 if j2 then (F_parse_reader_arm (z00.mk x1.1 x1.2.1 x1.2.2.1 x1.2.2.2.1 x1.2.2.2.2.1 x1.2.2.2.2.2.1)>>=fun v6 =>
 app 56 x1.2.2.2.2.2.2 [v6.2]>>=fun v7 =>
 some (.inl (v6.1.f_l,v6.1.f_end,v6.1.f_e,v6.1.f_at,v6.1.f_deep,v6.1.f_in,v7)))
 else (some (.inr (.inr (x1.1,x1.2.1,x1.2.2.1,x1.2.2.2.1,x1.2.2.2.2.1,x1.2.2.2.2.2.1,x1.2.2.2.2.2.2)))))
def z3y (r:(z00 × z05)):List XV:=[.agg (bs (z2p r.2))]
def z3z (r:(z00 × z05)):z0p:=[oB 71 (bs (z02 r.1))]
noncomputable def zjh (r:(z00 × z05)):Tg:=.r false Tryz.f119.results.toList 1 (z3y r) (z3z r)
def z36 (r:(z00 × (List z05))):List XV:=[xL (List.map z16 r.2)]
def z38 (r:(z00 × (List z05))):z0p:=[oB 71 (bs (z02 r.1))]
def z47 (r:(z00 × z0y)):List XV:=[.agg (bs (z6x r.2))]
def z48 (r:(z00 × z0y)):z0p:=[oB 71 (bs (z02 r.1))]
mutual
noncomputable def z1b:Nat→z00→Option (z00 × (List z05))
  | 0,_=>none
  | n+1,a0=>iter (z8i (z1b n) (z0u n) (z12 n) (z24 n) (z1v n) (z0n n) (z1h n)) (a0.f_l,a0.f_end,a0.f_e,a0.f_at,a0.f_deep,a0.f_in,[])>>=Sum.elim (fun r=>some r) (fun j1 =>
 none)
noncomputable def z0u:Nat→z00→Option (z00 × z05 × Bool)
  | 0,_=>none
  | n+1,a0=>z0j a0 (ByteArray.mk #[105,102])>>=fun v1 =>
 if v1.2 then ((z12 n) v1.1>>=fun v2 =>
 some (v2.1,v2.2,true))
 else (z0j v1.1 (ByteArray.mk #[119,104,105,108,101])>>=fun v3 =>
 if v3.2 then ((z24 n) v3.1>>=fun v4 =>
 some (v4.1,v4.2,true))
 else (z0j v3.1 (ByteArray.mk #[115,101,110,100])>>=fun v5 =>
 if v5.2 then (z7u v5.1>>=fun v6 =>
 some (v6.1,v6.2,true))
 else (z0j v5.1 (ByteArray.mk #[114,101,99,118])>>=fun v7 =>
 if v7.2 then ((z1v n) v7.1>>=fun v8 =>
 some (v8.1,v8.2,true))
 else (z0j v7.1 (ByteArray.mk #[97,115,115,101,114,116])>>=fun v9 =>
 if v9.2 then (z6p v9.1>>=fun v10 =>
 some (v10.1,v10.2,true))
 else (z0j v9.1 (ByteArray.mk #[105,110,112,117,116])>>=fun v11 =>
 if v11.2 then (z78 v11.1>>=fun v12 =>
 some (v12.1,v12.2,true))
 else (z6f v11.1 1>>=fun v13 =>
 if v13 then (z6q v11.1>>=fun v14 =>
 some (v14.1,v14.2,true))
 else (some (v11.1,(z05.mk 0 (ByteArray.mk #[]) (ByteArray.mk #[]) (z06.mk 0 0 (ByteArray.mk #[]) []) (z3t.mk 0 (z06.mk 0 0 (ByteArray.mk #[]) []) (z06.mk 0 0 (ByteArray.mk #[]) [])) [] [] []),false))))))))
noncomputable def z12:Nat→z00→Option (z00 × z05)
  | 0,_=>none
  | n+1,a0=>z5k a0>>=fun v1 =>
 (z0n n) v1.1>>=fun v2 =>
 z0j v2.1 (ByteArray.mk #[101,108,115,101])>>=fun v3 =>
 if v3.2 then ((z0n n) v3.1>>=fun v4 =>
 some (v4.1,(z05.mk 2 (ByteArray.mk #[]) (ByteArray.mk #[]) (z06.mk 0 0 (ByteArray.mk #[]) []) v1.2 v2.2 v4.2 [])))
 else (some (v3.1,(z05.mk 2 (ByteArray.mk #[]) (ByteArray.mk #[]) (z06.mk 0 0 (ByteArray.mk #[]) []) v1.2 v2.2 [] [])))
noncomputable def z24:Nat→z00→Option (z00 × z05)
  | 0,_=>none
  | n+1,a0=>z5k a0>>=fun v1 =>
 (z0n n) v1.1>>=fun v2 =>
 some (v2.1,(z05.mk 3 (ByteArray.mk #[]) (ByteArray.mk #[]) (z06.mk 0 0 (ByteArray.mk #[]) []) v1.2 v2.2 [] []))
noncomputable def z1v:Nat→z00→Option (z00 × z05)
  | 0,_=>none
  | n+1,a0=>z0h a0>>=fun v1 =>
 z08 v1.1 (ByteArray.mk #[123])>>=fun v2 =>
 (z1h n) v2>>=fun v3 =>
 app 56 [] [v3.2]>>=fun v4 =>
 iter (z6i (z1b n) (z0u n) (z12 n) (z24 n) (z1v n) (z0n n) (z1h n)) (v3.1.f_l,v3.1.f_end,v3.1.f_e,v3.1.f_at,v3.1.f_deep,v3.1.f_in,v4)>>=Sum.elim (fun _=>none) (fun j1 =>
 z08 (z00.mk j1.1 j1.2.1 j1.2.2.1 j1.2.2.2.1 j1.2.2.2.2.1 j1.2.2.2.2.2.1) (ByteArray.mk #[125])>>=fun v8 =>
 some (v8,(z05.mk 5 v1.2 (ByteArray.mk #[]) (z06.mk 0 0 (ByteArray.mk #[]) []) (z3t.mk 0 (z06.mk 0 0 (ByteArray.mk #[]) []) (z06.mk 0 0 (ByteArray.mk #[]) [])) [] [] j1.2.2.2.2.2.2)))
noncomputable def z0n:Nat→z00→Option (z00 × (List z05))
  | 0,_=>none
  | n+1,a0=>((z3e a0 (ByteArray.mk #[123])>>=fun v1 =>
 if v1 then (some (a0.f_in==24))
 else (some false):Option Bool)>>=fun j1 =>
 if j1 then (z2f a0 6>>=fun v2 =>
 some (v2,[]))
 else (z08 a0 (ByteArray.mk #[123])>>=fun v3 =>
 (z1b n) (z00.mk v3.f_l v3.f_end v3.f_e v3.f_at v3.f_deep (IntKind.i64.wrap (v3.f_in+1)))>>=fun v4 =>
 z08 (z00.mk v4.1.f_l v4.1.f_end v4.1.f_e v4.1.f_at v4.1.f_deep (IntKind.i64.wrap (v4.1.f_in - 1))) (ByteArray.mk #[125])>>=fun v5 =>
 some (v5,v4.2)))
noncomputable def z1h:Nat→z00→Option (z00 × z0y)
  | 0,_=>none
  | n+1,a0=>z0h a0>>=fun v1 =>
 z08 v1.1 (ByteArray.mk #[40])>>=fun v2 =>
 z0h v2>>=fun v3 =>
 z08 v3.1 (ByteArray.mk #[41])>>=fun v4 =>
 (z0n n) v4>>=fun v5 =>
 some (v5.1,(z0y.mk v1.2 v3.2 v5.2))
end
noncomputable def z79 (a0:z00):Option (z00 × (List z05)):=unf fun n=>z1b n a0
noncomputable def z3n (x1:((List z0g) × Int × Int × Int × Int × Int × (List ByteArray))):Option (Sum ((List z0g) × Int × Int × Int × Int × Int × (List ByteArray)) (Sum (z00 × z3h) ((List z0g) × Int × Int × Int × Int × Int × (List ByteArray)))) :=
 z0j (z00.mk x1.1 x1.2.1 x1.2.2.1 x1.2.2.2.1 x1.2.2.2.2.1 x1.2.2.2.2.2.1) (ByteArray.mk #[118,97,114])>>=fun v3 =>
 if v3.2 then (z0h v3.1>>=fun v4 =>
 app 16 x1.2.2.2.2.2.2 [v4.2]>>=fun v5 =>
 z08 v4.1 (ByteArray.mk #[59])>>=fun v6 =>
 some (.inl (v6.f_l,v6.f_end,v6.f_e,v6.f_at,v6.f_deep,v6.f_in,v5)))
 else (some (.inr (.inr (v3.1.f_l,v3.1.f_end,v3.1.f_e,v3.1.f_at,v3.1.f_deep,v3.1.f_in,x1.2.2.2.2.2.2))))
noncomputable def z7v (a0:z00):Option (z00 × z3h) :=
 z0h a0>>=fun v1 =>
 z08 v1.1 (ByteArray.mk #[123])>>=fun v2 =>
 iter (z3n) (v2.f_l,v2.f_end,v2.f_e,v2.f_at,v2.f_deep,v2.f_in,[])>>=Sum.elim (fun _=>none) (fun j1 =>
 z79 (z00.mk j1.1 j1.2.1 j1.2.2.1 j1.2.2.2.1 j1.2.2.2.2.1 j1.2.2.2.2.2.1)>>=fun v7 =>
 z08 v7.1 (ByteArray.mk #[125])>>=fun v8 =>
 some (v8,(z3h.mk v1.2 j1.2.2.2.2.2.2 v7.2)))
def zb5 (r:(z00 × z3h)):List XV:=[.agg (bs (z0x r.2))]
def zb6 (r:(z00 × z3h)):z0p:=[oB 71 (bs (z02 r.1))]
noncomputable def zji (r:(z00 × z3h)):Tg:=.r false Tryz.f23.results.toList 1 (zb5 r) (zb6 r)
noncomputable def z6v (x1:((List z0g) × Int × Int × Int × Int × Int × (List z39))):Option (Sum ((List z0g) × Int × Int × Int × Int × Int × (List z39)) (Sum (z23 × Int × Int) ((List z0g) × Int × Int × Int × Int × Int × (List z39)))) :=
 z0j (z00.mk x1.1 x1.2.1 x1.2.2.1 x1.2.2.2.1 x1.2.2.2.2.1 x1.2.2.2.2.2.1) (ByteArray.mk #[99,104,97,110])>>=fun v2 =>
 if v2.2 then (z6h v2.1>>=fun v3 =>
 app 88 x1.2.2.2.2.2.2 [v3.2]>>=fun v4 =>
 some (.inl (v3.1.f_l,v3.1.f_end,v3.1.f_e,v3.1.f_at,v3.1.f_deep,v3.1.f_in,v4)))
 else (some (.inr (.inr (v2.1.f_l,v2.1.f_end,v2.1.f_e,v2.1.f_at,v2.1.f_deep,v2.1.f_in,x1.2.2.2.2.2.2))))
noncomputable def z6w (x2:((List z0g) × Int × Int × Int × Int × Int × (List z3g))):Option (Sum ((List z0g) × Int × Int × Int × Int × Int × (List z3g)) (Sum (z23 × Int × Int) ((List z0g) × Int × Int × Int × Int × Int × (List z3g)))) :=
 z0j (z00.mk x2.1 x2.2.1 x2.2.2.1 x2.2.2.2.1 x2.2.2.2.2.1 x2.2.2.2.2.2.1) (ByteArray.mk #[114,117,108,101])>>=fun v5 =>
 if v5.2 then (z7t v5.1>>=fun v6 =>
 app 40 x2.2.2.2.2.2.2 [v6.2]>>=fun v7 =>
 some (.inl (v6.1.f_l,v6.1.f_end,v6.1.f_e,v6.1.f_at,v6.1.f_deep,v6.1.f_in,v7)))
 else (some (.inr (.inr (v5.1.f_l,v5.1.f_end,v5.1.f_e,v5.1.f_at,v5.1.f_deep,v5.1.f_in,x2.2.2.2.2.2.2))))
noncomputable def z69 (x3:((List z0g) × Int × Int × Int × Int × Int × (List z3h))):Option (Sum ((List z0g) × Int × Int × Int × Int × Int × (List z3h)) (Sum (z23 × Int × Int) ((List z0g) × Int × Int × Int × Int × Int × (List z3h)))) :=
 z0j (z00.mk x3.1 x3.2.1 x3.2.2.1 x3.2.2.2.1 x3.2.2.2.2.1 x3.2.2.2.2.2.1) (ByteArray.mk #[112,114,111,99])>>=fun v8 =>
 if v8.2 then (z7v v8.1>>=fun v9 =>
 app 64 x3.2.2.2.2.2.2 [v9.2]>>=fun v10 =>
 some (.inl (v9.1.f_l,v9.1.f_end,v9.1.f_e,v9.1.f_at,v9.1.f_deep,v9.1.f_in,v10)))
 else (some (.inr (.inr (v8.1.f_l,v8.1.f_end,v8.1.f_e,v8.1.f_at,v8.1.f_deep,v8.1.f_in,x3.2.2.2.2.2.2))))
noncomputable def z9u (a0:ByteArray):Option (z23 × Int × Int) :=
 zjf a0>>=fun v1 =>
 if (v1.2.2 != 0) then (some ((z23.mk [] [] []),v1.2.1,v1.2.2))
 else (iter (z6v) (v1.1,(a0.size:Int),0,0,0,0,[])>>=Sum.elim (fun _=>none) (fun j1 =>
 iter (z6w) (j1.1,j1.2.1,j1.2.2.1,j1.2.2.2.1,j1.2.2.2.2.1,j1.2.2.2.2.2.1,[])>>=Sum.elim (fun _=>none) (fun j2 =>
 iter (z69) (j2.1,j2.2.1,j2.2.2.1,j2.2.2.2.1,j2.2.2.2.2.1,j2.2.2.2.2.2.1,[])>>=Sum.elim (fun _=>none) (fun j3 =>
 if (decide ((j3.1.length:Int) > 0)) then (z2f (z00.mk j3.1 j3.2.1 j3.2.2.1 j3.2.2.2.1 j3.2.2.2.2.1 j3.2.2.2.2.2.1) 5>>=fun v11 =>
 if (v11.f_e != 0) then (some ((z23.mk [] [] []),v11.f_at,v11.f_e))
 else (some ((z23.mk j1.2.2.2.2.2.2 j2.2.2.2.2.2.2 j3.2.2.2.2.2.2),0,0)))
 else (if (j3.2.2.1 != 0) then (some ((z23.mk [] [] []),j3.2.2.2.1,j3.2.2.1))
 else (some ((z23.mk j1.2.2.2.2.2.2 j2.2.2.2.2.2.2 j3.2.2.2.2.2.2),0,0)))))))
def za9 (r:(z23 × Int × Int)):List XV:=[.agg (bs (z9r r.1)),xI r.2.1,xI r.2.2]
def zkc (r:(z23 × Int × Int)):z0p:=[]
noncomputable def zgh (r:(z23 × Int × Int)):Tg:=.r false Tryz.f9.results.toList 0 (za9 r) (zkc r)
noncomputable def ze6:Option Bool :=
 z9u (ByteArray.mk #[112,114,111,99,32,112,32,123,32,120,32,61,32,49,32,43,32,50,32,42,32,51,32,59,32,125])>>=fun v1 =>
 z9u (ByteArray.mk #[112,114,111,99,32,112])>>=fun v2 =>
 ((if (v1.2.2==0) then (if ((v1.1.Procs.length:Int)==1) then (idx v1.1.Procs 0>>=fun v3 =>
 if ((v3.Body.length:Int)==1) then (idx v1.1.Procs 0>>=fun v4 =>
 idx v4.Body 0>>=fun v5 =>
 if (v5.E.Kind==4) then (idx v1.1.Procs 0>>=fun v6 =>
 idx v6.Body 0>>=fun v7 =>
 if ((v7.E.Kids.length:Int)==2) then (idx v1.1.Procs 0>>=fun v8 =>
 idx v8.Body 0>>=fun v9 =>
 idx v9.E.Kids 1>>=fun v10 =>
 if (v10.Kind==6) then (if (v2.2.2==5) then (some (v2.2.1==6))
 else (some false))
 else (some false))
 else (some false))
 else (some false))
 else (some false))
 else (some false))
 else (some false):Option Bool)>>=fun j1 =>
 some j1)
def zbx (r:Bool):List XV:=[xB r]
def zs1 (r:Bool):z0p:=[]
noncomputable def z0l (a0:z01) (a1:ByteArray):Option Bool :=
 if (a0.E==0) then (if (decide (a0.I<(a0.L.length:Int))) then (idx a0.L a0.I>>=fun v1 =>
 if (v1.Text.toList==a1.toList) then (some (decide (v1.Kind≥3)))
 else (some false))
 else (some false))
 else (some false)
def z1q (r:Bool):List XV:=[xB r]
def z1r (a0:z01) (r:Bool):z0p:=[oB 89 (bs (z0c a0))]
noncomputable def z3o (a0:z01) (a1:Int):Option z01 :=
 if (a0.E != 0) then (some a0)
 else (if (decide (a0.I<(a0.L.length:Int))) then (idx a0.L a0.I>>=fun v1 =>
 some (z01.mk a0.L a0.I a0.End a1 v1.At))
 else (some (z01.mk a0.L a0.I a0.End a1 a0.End)))
def z5l (r:z01):List XV:=[]
def z5m (r:z01):z0p:=[oB 89 (bs (z0c r))]
noncomputable def z0k (a0:z01):Option (z01 × ByteArray) :=
 ((if (a0.E != 0) then (some true)
 else (if (decide (a0.I≥(a0.L.length:Int))) then (some true)
 else (idx a0.L a0.I>>=fun v1 =>
 some (v1.Kind != 1))):Option Bool)>>=fun j1 =>
 if j1 then (z3o a0 5>>=fun v2 =>
 some (v2,(ByteArray.mk #[])))
 else (idx a0.L (IntKind.i64.wrap ((IntKind.i64.wrap (a0.I+1)) - 1))>>=fun v3 =>
 some ((z01.mk a0.L (IntKind.i64.wrap (a0.I+1)) a0.End a0.E a0.At),v3.Text)))
def z2h (r:(z01 × ByteArray)):List XV:=[xS r.2]
def z2i (r:(z01 × ByteArray)):z0p:=[oB 89 (bs (z0c r.1))]
noncomputable def z2y (a0:z01):Option (z01 × Int) :=
 ((if (a0.E != 0) then (some true)
 else (if (decide (a0.I≥(a0.L.length:Int))) then (some true)
 else (idx a0.L a0.I>>=fun v1 =>
 some (v1.Kind != 2))):Option Bool)>>=fun j1 =>
 if j1 then (z3o a0 5>>=fun v2 =>
 some (v2,0))
 else (idx a0.L (IntKind.i64.wrap ((IntKind.i64.wrap (a0.I+1)) - 1))>>=fun v3 =>
 some ((z01.mk a0.L (IntKind.i64.wrap (a0.I+1)) a0.End a0.E a0.At),v3.Num)))
def z81 (r:(z01 × Int)):List XV:=[xI r.2]
def z82 (r:(z01 × Int)):z0p:=[oB 89 (bs (z0c r.1))]
noncomputable def z0a (a0:z01) (a1:ByteArray):Option z01 :=
 z0l a0 a1>>=fun v1 =>
 if (!v1) then (z3o a0 5>>=fun v2 =>
 some v2)
 else (some (z01.mk a0.L (IntKind.i64.wrap (a0.I+1)) a0.End a0.E a0.At))
def z19 (r:z01):List XV:=[]
def z1a (r:z01):z0p:=[oB 89 (bs (z0c r))]
noncomputable def z49 (v1:(z01 × ByteArray)) (x1:(Int × Int)):Option (Sum (Int × Int) (Sum (z01 × z3l) Int)) :=
 if (decide (x1.1<3)) then (((idx [(ByteArray.mk #[98,108,111,99,107]),(ByteArray.mk #[100,114,111,112]),(ByteArray.mk #[108,111,115,115,121])] x1.1>>=fun v2 =>
 z0l v1.1 v2>>=fun v3 =>
 if v3 then (some x1.1)
 else (some x1.2):Option Int)>>=fun j2 =>
 some (.inl ((IntKind.i64.wrap (x1.1+1)),j2))))
 else (some (.inr (.inr x1.2)))
noncomputable def z2z (x3:((List z0r) × Int × Int × Int × Int × (List ByteArray))):Option (Sum ((List z0r) × Int × Int × Int × Int × (List ByteArray)) (Sum (z01 × z3l) ((List z0r) × Int × Int × Int × Int × (List ByteArray)))) :=
 z0l (z01.mk x3.1 x3.2.1 x3.2.2.1 x3.2.2.2.1 x3.2.2.2.2.1) (ByteArray.mk #[44])>>=fun v13 =>
 if v13 then (z0k (z01.mk x3.1 (IntKind.i64.wrap (x3.2.1+1)) x3.2.2.1 x3.2.2.2.1 x3.2.2.2.2.1)>>=fun v14 =>
 app 16 x3.2.2.2.2.2 [v14.2]>>=fun v15 =>
 some (.inl (v14.1.L,v14.1.I,v14.1.End,v14.1.E,v14.1.At,v15)))
 else (some (.inr (.inr (x3.1,x3.2.1,x3.2.2.1,x3.2.2.2.1,x3.2.2.2.2.1,x3.2.2.2.2.2))))
noncomputable def z7a (a0:z01):Option (z01 × z3l) :=
 z0k a0>>=fun v1 =>
 iter (z49 v1) (0,(-1))>>=Sum.elim (fun _=>none) (fun j1 =>
 if (decide (j1<0)) then (z3o v1.1 5>>=fun v4 =>
 some (v4,(z3l.mk v1.2 j1 0 (ByteArray.mk #[]) (ByteArray.mk #[]) [])))
 else (z2y (z01.mk v1.1.L (IntKind.i64.wrap (v1.1.I+1)) v1.1.End v1.1.E v1.1.At)>>=fun v5 =>
 z0a v5.1 (ByteArray.mk #[102,114,111,109])>>=fun v6 =>
 z0k v6>>=fun v7 =>
 z0a v7.1 (ByteArray.mk #[116,111])>>=fun v8 =>
 z0k v8>>=fun v9 =>
 z0a v9.1 (ByteArray.mk #[123])>>=fun v10 =>
 z0k v10>>=fun v11 =>
 app 16 [] [v11.2]>>=fun v12 =>
 iter (z2z) (v11.1.L,v11.1.I,v11.1.End,v11.1.E,v11.1.At,v12)>>=Sum.elim (fun _=>none) (fun j3 =>
 z0a (z01.mk j3.1 j3.2.1 j3.2.2.1 j3.2.2.2.1 j3.2.2.2.2.1) (ByteArray.mk #[125])>>=fun v16 =>
 z0a v16 (ByteArray.mk #[59])>>=fun v17 =>
 some (v17,(z3l.mk v1.2 j1 v5.2 v7.2 v9.2 j3.2.2.2.2.2)))))
def zal (r:(z01 × z3l)):List XV:=[.agg (bs (z2a r.2))]
def zam (r:(z01 × z3l)):z0p:=[oB 89 (bs (z0c r.1))]
noncomputable def zds (r:(z01 × z3l)):Tg:=.r false Tryz.f27.results.toList 1 (zal r) (zam r)
def z4k (r:(z01 × z04)):List XV:=[.agg (bs (z0f r.2))]
def z4l (r:(z01 × z04)):z0p:=[oB 89 (bs (z0c r.1))]
noncomputable def z6r (F_r03_Reader_expr:z01→Int→Option (z01 × z04)) (F_r03_Reader_chain:z01→Int→(List ByteArray)→Int→Option (z01 × z04)) (F_r03_Reader_factor:z01→Int→Option (z01 × z04)) (a2:(List ByteArray)) (x1:((List z0r) × Int × Int × Int × Int × Int × Int × ByteArray × (List z04))) (x2:(Int × Int)):Option (Sum (Int × Int) (Sum (z01 × z04) Int)) :=
 if (decide (x2.2<(a2.length:Int))) then (((idx a2 x2.2>>=fun v2 =>
 z0l (z01.mk x1.1 x1.2.1 x1.2.2.1 x1.2.2.2.1 x1.2.2.2.2.1) v2>>=fun v3 =>
 if v3 then (some x2.2)
 else (some x2.1):Option Int)>>=fun j3 =>
 some (.inl (j3,(IntKind.i64.wrap (x2.2+1))))))
 else (some (.inr (.inr x2.1)))
noncomputable def z6s (F_r03_Reader_expr:z01→Int→Option (z01 × z04)) (F_r03_Reader_chain:z01→Int→(List ByteArray)→Int→Option (z01 × z04)) (F_r03_Reader_factor:z01→Int→Option (z01 × z04)) (a1:Int) (a2:(List ByteArray)) (a3:Int) (x1:((List z0r) × Int × Int × Int × Int × Int × Int × ByteArray × (List z04))):Option (Sum ((List z0r) × Int × Int × Int × Int × Int × Int × ByteArray × (List z04)) (Sum (z01 × z04) ((List z0r) × Int × Int × Int × Int × Int × Int × ByteArray × (List z04)))) :=
 if (x1.2.2.2.1==0) then (iter (z6r F_r03_Reader_expr F_r03_Reader_chain F_r03_Reader_factor a2 x1) ((-1),0)>>=Sum.elim (fun _=>none) (fun j2 =>
 if (decide (j2<0)) then (some (.inr (.inr (x1.1,x1.2.1,x1.2.2.1,x1.2.2.2.1,x1.2.2.2.2.1,x1.2.2.2.2.2.1,x1.2.2.2.2.2.2.1,x1.2.2.2.2.2.2.2.1,x1.2.2.2.2.2.2.2.2))))
 else (F_r03_Reader_factor (z01.mk x1.1 (IntKind.i64.wrap (x1.2.1+1)) x1.2.2.1 x1.2.2.2.1 x1.2.2.2.2.1) a1>>=fun v4 =>
 some (.inl (v4.1.L,v4.1.I,v4.1.End,v4.1.E,v4.1.At,(IntKind.i64.wrap (a3+j2)),0,(ByteArray.mk #[]),[(z04.mk x1.2.2.2.2.2.1 x1.2.2.2.2.2.2.1 x1.2.2.2.2.2.2.2.1 x1.2.2.2.2.2.2.2.2),v4.2])))))
 else (some (.inr (.inr (x1.1,x1.2.1,x1.2.2.1,x1.2.2.2.1,x1.2.2.2.2.1,x1.2.2.2.2.2.1,x1.2.2.2.2.2.2.1,x1.2.2.2.2.2.2.2.1,x1.2.2.2.2.2.2.2.2))))
noncomputable def z6t (F_r03_Reader_expr:z01→Int→Option (z01 × z04)) (F_r03_Reader_chain:z01→Int→(List ByteArray)→Int→Option (z01 × z04)) (F_r03_Reader_factor:z01→Int→Option (z01 × z04)) (a2:(List ByteArray)) (x4:((List z0r) × Int × Int × Int × Int × Int × Int × ByteArray × (List z04))) (x5:(Int × Int)):Option (Sum (Int × Int) (Sum (z01 × z04) Int)) :=
 if (decide (x5.2<(a2.length:Int))) then (((idx a2 x5.2>>=fun v6 =>
 z0l (z01.mk x4.1 x4.2.1 x4.2.2.1 x4.2.2.2.1 x4.2.2.2.2.1) v6>>=fun v7 =>
 if v7 then (some x5.2)
 else (some x5.1):Option Int)>>=fun j6 =>
 some (.inl (j6,(IntKind.i64.wrap (x5.2+1))))))
 else (some (.inr (.inr x5.1)))
noncomputable def z6u (F_r03_Reader_expr:z01→Int→Option (z01 × z04)) (F_r03_Reader_chain:z01→Int→(List ByteArray)→Int→Option (z01 × z04)) (F_r03_Reader_factor:z01→Int→Option (z01 × z04)) (a1:Int) (a2:(List ByteArray)) (a3:Int) (x4:((List z0r) × Int × Int × Int × Int × Int × Int × ByteArray × (List z04))):Option (Sum ((List z0r) × Int × Int × Int × Int × Int × Int × ByteArray × (List z04)) (Sum (z01 × z04) ((List z0r) × Int × Int × Int × Int × Int × Int × ByteArray × (List z04)))) :=
 if (x4.2.2.2.1==0) then (iter (z6t F_r03_Reader_expr F_r03_Reader_chain F_r03_Reader_factor a2 x4) ((-1),0)>>=Sum.elim (fun _=>none) (fun j5 =>
 if (decide (j5<0)) then (some (.inr (.inr (x4.1,x4.2.1,x4.2.2.1,x4.2.2.2.1,x4.2.2.2.2.1,x4.2.2.2.2.2.1,x4.2.2.2.2.2.2.1,x4.2.2.2.2.2.2.2.1,x4.2.2.2.2.2.2.2.2))))
 else (F_r03_Reader_chain (z01.mk x4.1 (IntKind.i64.wrap (x4.2.1+1)) x4.2.2.1 x4.2.2.2.1 x4.2.2.2.2.1) a1 [(ByteArray.mk #[42]),(ByteArray.mk #[47]),(ByteArray.mk #[37])] 6>>=fun v8 =>
 some (.inl (v8.1.L,v8.1.I,v8.1.End,v8.1.E,v8.1.At,(IntKind.i64.wrap (a3+j5)),0,(ByteArray.mk #[]),[(z04.mk x4.2.2.2.2.2.1 x4.2.2.2.2.2.2.1 x4.2.2.2.2.2.2.2.1 x4.2.2.2.2.2.2.2.2),v8.2])))))
 else (some (.inr (.inr (x4.1,x4.2.1,x4.2.2.1,x4.2.2.2.1,x4.2.2.2.2.1,x4.2.2.2.2.2.1,x4.2.2.2.2.2.2.1,x4.2.2.2.2.2.2.2.1,x4.2.2.2.2.2.2.2.2))))
def z54 (r:(z01 × z04)):List XV:=[.agg (bs (z0f r.2))]
def z55 (r:(z01 × z04)):z0p:=[oB 89 (bs (z0c r.1))]
noncomputable def z9m (r:(z01 × z04)):Tg:=.r false Tryz.f100.results.toList 1 (z54 r) (z55 r)
def z5c (r:(z01 × z04)):List XV:=[.agg (bs (z0f r.2))]
def z5d (r:(z01 × z04)):z0p:=[oB 89 (bs (z0c r.1))]
mutual
noncomputable def z1w:Nat→z01→Int→Option (z01 × z04)
  | 0,_,_=>none
  | n+1,a0,a1=>(z14 n) a0 a1 [(ByteArray.mk #[43]),(ByteArray.mk #[45])] 4>>=fun v1 =>
 some (v1.1,v1.2)
noncomputable def z14:Nat→z01→Int→(List ByteArray)→Int→Option (z01 × z04)
  | 0,_,_,_,_=>none
  | n+1,a0,a1,a2,a3=>if (a3==6) then ((z0q n) a0 a1>>=fun v1 =>
 iter (z6s (z1w n) (z14 n) (z0q n) a1 a2 a3) (v1.1.L,v1.1.I,v1.1.End,v1.1.E,v1.1.At,v1.2.Kind,v1.2.Num,v1.2.Name,v1.2.Kids)>>=Sum.elim (fun _=>none) (fun j1 =>
 some ((z01.mk j1.1 j1.2.1 j1.2.2.1 j1.2.2.2.1 j1.2.2.2.2.1),(z04.mk j1.2.2.2.2.2.1 j1.2.2.2.2.2.2.1 j1.2.2.2.2.2.2.2.1 j1.2.2.2.2.2.2.2.2))))
 else ((z14 n) a0 a1 [(ByteArray.mk #[42]),(ByteArray.mk #[47]),(ByteArray.mk #[37])] 6>>=fun v5 =>
 iter (z6u (z1w n) (z14 n) (z0q n) a1 a2 a3) (v5.1.L,v5.1.I,v5.1.End,v5.1.E,v5.1.At,v5.2.Kind,v5.2.Num,v5.2.Name,v5.2.Kids)>>=Sum.elim (fun _=>none) (fun j4 =>
 some ((z01.mk j4.1 j4.2.1 j4.2.2.1 j4.2.2.2.1 j4.2.2.2.2.1),(z04.mk j4.2.2.2.2.2.1 j4.2.2.2.2.2.2.1 j4.2.2.2.2.2.2.2.1 j4.2.2.2.2.2.2.2.2))))
noncomputable def z0q:Nat→z01→Int→Option (z01 × z04)
  | 0,_,_=>none
  | n+1,a0,a1=>((z0l a0 (ByteArray.mk #[45])>>=fun v1 =>
 if v1 then (some true)
 else (z0l a0 (ByteArray.mk #[40])>>=fun v2 =>
 some v2):Option Bool)>>=fun j1 =>
 if j1 then (if (decide (a1≥24)) then (z3o a0 6>>=fun v3 =>
 some (v3,(z04.mk 0 0 (ByteArray.mk #[]) [])))
 else (z0l a0 (ByteArray.mk #[45])>>=fun v4 =>
 if v4 then ((z0q n) (z01.mk a0.L (IntKind.i64.wrap (a0.I+1)) a0.End a0.E a0.At) (IntKind.i64.wrap (a1+1))>>=fun v5 =>
 some (v5.1,(z04.mk 3 0 (ByteArray.mk #[]) [v5.2])))
 else ((z1w n) (z01.mk a0.L (IntKind.i64.wrap (a0.I+1)) a0.End a0.E a0.At) (IntKind.i64.wrap (a1+1))>>=fun v6 =>
 z0a v6.1 (ByteArray.mk #[41])>>=fun v7 =>
 some (v7,v6.2))))
 else (((if (a0.E==0) then (if (decide (a0.I<(a0.L.length:Int))) then (idx a0.L a0.I>>=fun v8 =>
 some (v8.Kind==2))
 else (some false))
 else (some false):Option Bool)>>=fun j2 =>
 if j2 then (z2y a0>>=fun v9 =>
 some (v9.1,(z04.mk 1 v9.2 (ByteArray.mk #[]) [])))
 else (z0k a0>>=fun v10 =>
 some (v10.1,(z04.mk 2 0 v10.2 []))))))
end
noncomputable def z5e (a0:z01) (a1:Int):Option (z01 × z04):=unf fun n=>z1w n a0 a1
noncomputable def z6g (v2:(z01 × z04)) (x1:(Int × z1k)):Option (Sum (Int × z1k) (Sum (z01 × z1k) z1k)) :=
 if (decide (x1.1<6)) then (((idx [(ByteArray.mk #[61,61]),(ByteArray.mk #[33,61]),(ByteArray.mk #[60]),(ByteArray.mk #[60,61]),(ByteArray.mk #[62]),(ByteArray.mk #[62,61])] x1.1>>=fun v3 =>
 z0l v2.1 v3>>=fun v4 =>
 if v4 then (some (IntKind.i64.wrap (x1.1+1)))
 else (some x1.2.Op):Option Int)>>=fun j2 =>
 some (.inl ((IntKind.i64.wrap (x1.1+1)),(z1k.mk j2 x1.2.L x1.2.R)))))
 else (some (.inr (.inr x1.2)))
noncomputable def z5y (a0:z01):Option (z01 × z1k) :=
 z0a a0 (ByteArray.mk #[40])>>=fun v1 =>
 z5e v1 0>>=fun v2 =>
 iter (z6g v2) (0,(z1k.mk 0 v2.2 (z04.mk 0 0 (ByteArray.mk #[]) [])))>>=Sum.elim (fun _=>none) (fun j1 =>
 if (j1.Op==0) then (z3o v2.1 5>>=fun v5 =>
 some (v5,j1))
 else (z5e (z01.mk v2.1.L (IntKind.i64.wrap (v2.1.I+1)) v2.1.End v2.1.E v2.1.At) 0>>=fun v6 =>
 z0a v6.1 (ByteArray.mk #[41])>>=fun v7 =>
 some (v7,(z1k.mk j1.Op j1.L v6.2))))
def z8v (r:(z01 × z1k)):List XV:=[.agg (bs (z73 r.2))]
def z8w (r:(z01 × z1k)):z0p:=[oB 89 (bs (z0c r.1))]
noncomputable def zla (r:(z01 × z1k)):Tg:=.r false Tryz.f66.results.toList 1 (z8v r) (z8w r)
noncomputable def z5f (F_r03_Reader_stmts:z01→Int→Option (z01 × (List z03))) (F_r03_Reader_block:z01→Int→Option (z01 × (List z03))) (a1:Int) (x3:((List z0r) × Int × Int × Int × Int × (List z2k))):Option (Sum ((List z0r) × Int × Int × Int × Int × (List z2k)) (Sum (z01 × (List z03)) ((List z0r) × Int × Int × Int × Int × (List z2k)))) :=
 ((if (x3.2.2.2.1==0) then (if ((x3.2.2.2.2.2.length:Int)==0) then (some true)
 else (z0l (z01.mk x3.1 x3.2.1 x3.2.2.1 x3.2.2.2.1 x3.2.2.2.2.1) (ByteArray.mk #[125])>>=fun v20 =>
 some (!v20)))
 else (some false):Option Bool)>>=fun j4 =>
 if j4 then (z0k (z01.mk x3.1 x3.2.1 x3.2.2.1 x3.2.2.2.1 x3.2.2.2.2.1)>>=fun v21 =>
 z0a v21.1 (ByteArray.mk #[40])>>=fun v22 =>
 z0k v22>>=fun v23 =>
 z0a v23.1 (ByteArray.mk #[41])>>=fun v24 =>
 F_r03_Reader_block v24 a1>>=fun v25 =>
 app 56 x3.2.2.2.2.2 [(z2k.mk v21.2 v23.2 v25.2)]>>=fun v26 =>
 some (.inl (v25.1.L,v25.1.I,v25.1.End,v25.1.E,v25.1.At,v26)))
 else (some (.inr (.inr (x3.1,x3.2.1,x3.2.2.1,x3.2.2.2.1,x3.2.2.2.2.1,x3.2.2.2.2.2)))))
noncomputable def z3f (F_r03_Reader_stmts:z01→Int→Option (z01 × (List z03))) (F_r03_Reader_block:z01→Int→Option (z01 × (List z03))) (a1:Int) (x1:((List z0r) × Int × Int × Int × Int × (List z03))):Option (Sum ((List z0r) × Int × Int × Int × Int × (List z03)) (Sum (z01 × (List z03)) ((List z0r) × Int × Int × Int × Int × (List z03)))) :=
 if (x1.2.2.2.1==0) then (((z0l (z01.mk x1.1 x1.2.1 x1.2.2.1 x1.2.2.2.1 x1.2.2.2.2.1) (ByteArray.mk #[105,102])>>=fun v1 =>
 if v1 then (z5y (z01.mk x1.1 (IntKind.i64.wrap (x1.2.1+1)) x1.2.2.1 x1.2.2.2.1 x1.2.2.2.2.1)>>=fun v2 =>
 F_r03_Reader_block v2.1 a1>>=fun v3 =>
 z0l v3.1 (ByteArray.mk #[101,108,115,101])>>=fun v4 =>
 if v4 then (F_r03_Reader_block (z01.mk v3.1.L (IntKind.i64.wrap (v3.1.I+1)) v3.1.End v3.1.E v3.1.At) a1>>=fun v5 =>
 some (.inr (v5.1.L,v5.1.I,v5.1.End,v5.1.E,v5.1.At,(z03.mk 2 (ByteArray.mk #[]) (ByteArray.mk #[]) (z04.mk 0 0 (ByteArray.mk #[]) []) v2.2 v3.2 v5.2 []),[])))
 else (some (.inr (v3.1.L,v3.1.I,v3.1.End,v3.1.E,v3.1.At,(z03.mk 2 (ByteArray.mk #[]) (ByteArray.mk #[]) (z04.mk 0 0 (ByteArray.mk #[]) []) v2.2 v3.2 [] []),[]))))
 else (z0l (z01.mk x1.1 x1.2.1 x1.2.2.1 x1.2.2.2.1 x1.2.2.2.2.1) (ByteArray.mk #[119,104,105,108,101])>>=fun v6 =>
 if v6 then (z5y (z01.mk x1.1 (IntKind.i64.wrap (x1.2.1+1)) x1.2.2.1 x1.2.2.2.1 x1.2.2.2.2.1)>>=fun v7 =>
 F_r03_Reader_block v7.1 a1>>=fun v8 =>
 some (.inr (v8.1.L,v8.1.I,v8.1.End,v8.1.E,v8.1.At,(z03.mk 3 (ByteArray.mk #[]) (ByteArray.mk #[]) (z04.mk 0 0 (ByteArray.mk #[]) []) v7.2 v8.2 [] []),[])))
 else (z0l (z01.mk x1.1 x1.2.1 x1.2.2.1 x1.2.2.2.1 x1.2.2.2.2.1) (ByteArray.mk #[115,101,110,100])>>=fun v9 =>
 if v9 then (z0k (z01.mk x1.1 (IntKind.i64.wrap (x1.2.1+1)) x1.2.2.1 x1.2.2.2.1 x1.2.2.2.2.1)>>=fun v10 =>
 z0a v10.1 (ByteArray.mk #[46])>>=fun v11 =>
 z0k v11>>=fun v12 =>
 z0a v12.1 (ByteArray.mk #[40])>>=fun v13 =>
 z5e v13 0>>=fun v14 =>
 z0a v14.1 (ByteArray.mk #[41])>>=fun v15 =>
 z0a v15 (ByteArray.mk #[59])>>=fun v16 =>
 some (.inr (v16.L,v16.I,v16.End,v16.E,v16.At,(z03.mk 4 v10.2 v12.2 v14.2 (z1k.mk 0 (z04.mk 0 0 (ByteArray.mk #[]) []) (z04.mk 0 0 (ByteArray.mk #[]) [])) [] [] []),[])))
 else (z0l (z01.mk x1.1 x1.2.1 x1.2.2.1 x1.2.2.2.1 x1.2.2.2.2.1) (ByteArray.mk #[114,101,99,118])>>=fun v17 =>
 if v17 then (z0k (z01.mk x1.1 (IntKind.i64.wrap (x1.2.1+1)) x1.2.2.1 x1.2.2.2.1 x1.2.2.2.2.1)>>=fun v18 =>
 z0a v18.1 (ByteArray.mk #[123])>>=fun v19 =>
 iter (z5f F_r03_Reader_stmts F_r03_Reader_block a1) (v19.L,v19.I,v19.End,v19.E,v19.At,[])>>=Sum.elim (fun _=>none) (fun j3 =>
 z0a (z01.mk j3.1 j3.2.1 j3.2.2.1 j3.2.2.2.1 j3.2.2.2.2.1) (ByteArray.mk #[125])>>=fun v27 =>
 some (.inr (v27.L,v27.I,v27.End,v27.E,v27.At,(z03.mk 5 v18.2 (ByteArray.mk #[]) (z04.mk 0 0 (ByteArray.mk #[]) []) (z1k.mk 0 (z04.mk 0 0 (ByteArray.mk #[]) []) (z04.mk 0 0 (ByteArray.mk #[]) [])) [] [] j3.2.2.2.2.2),j3.2.2.2.2.2))))
 else (z0l (z01.mk x1.1 x1.2.1 x1.2.2.1 x1.2.2.2.1 x1.2.2.2.2.1) (ByteArray.mk #[97,115,115,101,114,116])>>=fun v28 =>
 if v28 then (z5y (z01.mk x1.1 (IntKind.i64.wrap (x1.2.1+1)) x1.2.2.1 x1.2.2.2.1 x1.2.2.2.2.1)>>=fun v29 =>
 z0a v29.1 (ByteArray.mk #[59])>>=fun v30 =>
 some (.inr (v30.L,v30.I,v30.End,v30.E,v30.At,(z03.mk 6 (ByteArray.mk #[]) (ByteArray.mk #[]) (z04.mk 0 0 (ByteArray.mk #[]) []) v29.2 [] [] []),[])))
 else (z0l (z01.mk x1.1 x1.2.1 x1.2.2.1 x1.2.2.2.1 x1.2.2.2.2.1) (ByteArray.mk #[105,110,112,117,116])>>=fun v31 =>
 if v31 then (z0k (z01.mk x1.1 (IntKind.i64.wrap (x1.2.1+1)) x1.2.2.1 x1.2.2.2.1 x1.2.2.2.2.1)>>=fun v32 =>
 z0a v32.1 (ByteArray.mk #[59])>>=fun v33 =>
 some (.inr (v33.L,v33.I,v33.End,v33.E,v33.At,(z03.mk 7 v32.2 (ByteArray.mk #[]) (z04.mk 0 0 (ByteArray.mk #[]) []) (z1k.mk 0 (z04.mk 0 0 (ByteArray.mk #[]) []) (z04.mk 0 0 (ByteArray.mk #[]) [])) [] [] []),[])))
 else (((if (decide (x1.2.1<(x1.1.length:Int))) then (idx x1.1 x1.2.1>>=fun v34 =>
 some (v34.Kind==1))
 else (some false):Option Bool)>>=fun j5 =>
 if j5 then (z0k (z01.mk x1.1 x1.2.1 x1.2.2.1 x1.2.2.2.1 x1.2.2.2.2.1)>>=fun v35 =>
 z0a v35.1 (ByteArray.mk #[61])>>=fun v36 =>
 z5e v36 0>>=fun v37 =>
 z0a v37.1 (ByteArray.mk #[59])>>=fun v38 =>
 some (.inr (v38.L,v38.I,v38.End,v38.E,v38.At,(z03.mk 1 v35.2 (ByteArray.mk #[]) v37.2 (z1k.mk 0 (z04.mk 0 0 (ByteArray.mk #[]) []) (z04.mk 0 0 (ByteArray.mk #[]) [])) [] [] []),[])))
 else (some (.inl ((z01.mk x1.1 x1.2.1 x1.2.2.1 x1.2.2.2.1 x1.2.2.2.2.1),x1.2.2.2.2.2)))))))))):Option (Sum (z01 × (List z03)) ((List z0r) × Int × Int × Int × Int × z03 × (List z2k))))>>=Sum.elim (fun r=>some (.inr (.inl r))) (fun j2 =>
 app 288 x1.2.2.2.2.2 [(z03.mk j2.2.2.2.2.2.1.Kind j2.2.2.2.2.2.1.Name j2.2.2.2.2.2.1.Tag j2.2.2.2.2.2.1.E j2.2.2.2.2.2.1.C j2.2.2.2.2.2.1.Body j2.2.2.2.2.2.1.Else j2.2.2.2.2.2.2)]>>=fun v39 =>
 some (.inl (j2.1,j2.2.1,j2.2.2.1,j2.2.2.2.1,j2.2.2.2.2.1,v39)))))
 else (some (.inr (.inr (x1.1,x1.2.1,x1.2.2.1,x1.2.2.2.1,x1.2.2.2.2.1,x1.2.2.2.2.2))))
def z5s (r:(z01 × (List z03))):List XV:=[xL (List.map z09 r.2)]
def z5t (r:(z01 × (List z03))):z0p:=[oB 89 (bs (z0c r.1))]
noncomputable def zcc (r:(z01 × (List z03))):Tg:=.r false Tryz.f31.results.toList 1 (z5s r) (z5t r)
def z5u (r:(z01 × (List z03))):List XV:=[xL (List.map z09 r.2)]
def z5v (r:(z01 × (List z03))):z0p:=[oB 89 (bs (z0c r.1))]
mutual
noncomputable def z2j:Nat→z01→Int→Option (z01 × (List z03))
  | 0,_,_=>none
  | n+1,a0,a1=>iter (z3f (z2j n) (z1m n) a1) (a0.L,a0.I,a0.End,a0.E,a0.At,[])>>=Sum.elim (fun r=>some r) (fun j1 =>
 some ((z01.mk j1.1 j1.2.1 j1.2.2.1 j1.2.2.2.1 j1.2.2.2.2.1),j1.2.2.2.2.2))
noncomputable def z1m:Nat→z01→Int→Option (z01 × (List z03))
  | 0,_,_=>none
  | n+1,a0,a1=>((z0l a0 (ByteArray.mk #[123])>>=fun v1 =>
 if v1 then (some (decide (a1≥24)))
 else (some false):Option Bool)>>=fun j1 =>
 if j1 then (z3o a0 6>>=fun v2 =>
 some (v2,[]))
 else (z0a a0 (ByteArray.mk #[123])>>=fun v3 =>
 (z2j n) v3 (IntKind.i64.wrap (a1+1))>>=fun v4 =>
 z0a v4.1 (ByteArray.mk #[125])>>=fun v5 =>
 some (v5,v4.2)))
end
noncomputable def z8d (a0:z01) (a1:Int):Option (z01 × (List z03)):=unf fun n=>z2j n a0 a1
noncomputable def z8j (x1:((List z0r) × Int × Int × Int × Int × (List z3l))):Option (Sum ((List z0r) × Int × Int × Int × Int × (List z3l)) (Sum (z0i × Int × Int) ((List z0r) × Int × Int × Int × Int × (List z3l)))) :=
 z0l (z01.mk x1.1 x1.2.1 x1.2.2.1 x1.2.2.2.1 x1.2.2.2.2.1) (ByteArray.mk #[99,104,97,110])>>=fun v2 =>
 if v2 then (z7a (z01.mk x1.1 (IntKind.i64.wrap (x1.2.1+1)) x1.2.2.1 x1.2.2.2.1 x1.2.2.2.2.1)>>=fun v3 =>
 app 88 x1.2.2.2.2.2 [v3.2]>>=fun v4 =>
 some (.inl (v3.1.L,v3.1.I,v3.1.End,v3.1.E,v3.1.At,v4)))
 else (some (.inr (.inr (x1.1,x1.2.1,x1.2.2.1,x1.2.2.2.1,x1.2.2.2.2.1,x1.2.2.2.2.2))))
noncomputable def z5w (x3:((List z0r) × Int × Int × Int × Int × (List z6c))):Option (Sum ((List z0r) × Int × Int × Int × Int × (List z6c)) (Sum (z0i × Int × Int) ((List z0r) × Int × Int × Int × Int × (List z6c)))) :=
 ((if (x3.2.2.2.1==0) then (z0l (z01.mk x3.1 x3.2.1 x3.2.2.1 x3.2.2.2.1 x3.2.2.2.2.1) (ByteArray.mk #[125])>>=fun v8 =>
 some (!v8))
 else (some false):Option Bool)>>=fun j4 =>
 if j4 then (z2y (z01.mk x3.1 x3.2.1 x3.2.2.1 x3.2.2.2.1 x3.2.2.2.2.1)>>=fun v9 =>
 z0k v9.1>>=fun v10 =>
 z2y v10.1>>=fun v11 =>
 z0a v11.1 (ByteArray.mk #[59])>>=fun v12 =>
 app 32 x3.2.2.2.2.2 [(z6c.mk v9.2 v10.2 v11.2)]>>=fun v13 =>
 some (.inl (v12.L,v12.I,v12.End,v12.E,v12.At,v13)))
 else (some (.inr (.inr (x3.1,x3.2.1,x3.2.2.1,x3.2.2.2.1,x3.2.2.2.2.1,x3.2.2.2.2.2)))))
noncomputable def z8k (x2:((List z0r) × Int × Int × Int × Int × (List z4t))):Option (Sum ((List z0r) × Int × Int × Int × Int × (List z4t)) (Sum (z0i × Int × Int) ((List z0r) × Int × Int × Int × Int × (List z4t)))) :=
 z0l (z01.mk x2.1 x2.2.1 x2.2.2.1 x2.2.2.2.1 x2.2.2.2.2.1) (ByteArray.mk #[114,117,108,101])>>=fun v5 =>
 if v5 then (z0k (z01.mk x2.1 (IntKind.i64.wrap (x2.2.1+1)) x2.2.2.1 x2.2.2.2.1 x2.2.2.2.2.1)>>=fun v6 =>
 z0a v6.1 (ByteArray.mk #[123])>>=fun v7 =>
 iter (z5w) (v7.L,v7.I,v7.End,v7.E,v7.At,[])>>=Sum.elim (fun _=>none) (fun j3 =>
 z0a (z01.mk j3.1 j3.2.1 j3.2.2.1 j3.2.2.2.1 j3.2.2.2.2.1) (ByteArray.mk #[125])>>=fun v14 =>
 app 40 x2.2.2.2.2.2 [(z4t.mk v6.2 j3.2.2.2.2.2)]>>=fun v15 =>
 some (.inl (v14.L,v14.I,v14.End,v14.E,v14.At,v15))))
 else (some (.inr (.inr (x2.1,x2.2.1,x2.2.2.1,x2.2.2.2.1,x2.2.2.2.2.1,x2.2.2.2.2.2))))
noncomputable def z5x (x6:((List z0r) × Int × Int × Int × Int × (List ByteArray))):Option (Sum ((List z0r) × Int × Int × Int × Int × (List ByteArray)) (Sum (z0i × Int × Int) ((List z0r) × Int × Int × Int × Int × (List ByteArray)))) :=
 z0l (z01.mk x6.1 x6.2.1 x6.2.2.1 x6.2.2.2.1 x6.2.2.2.2.1) (ByteArray.mk #[118,97,114])>>=fun v19 =>
 if v19 then (z0k (z01.mk x6.1 (IntKind.i64.wrap (x6.2.1+1)) x6.2.2.1 x6.2.2.2.1 x6.2.2.2.2.1)>>=fun v20 =>
 app 16 x6.2.2.2.2.2 [v20.2]>>=fun v21 =>
 z0a v20.1 (ByteArray.mk #[59])>>=fun v22 =>
 some (.inl (v22.L,v22.I,v22.End,v22.E,v22.At,v21)))
 else (some (.inr (.inr (x6.1,x6.2.1,x6.2.2.1,x6.2.2.2.1,x6.2.2.2.2.1,x6.2.2.2.2.2))))
noncomputable def z7n (x5:((List z0r) × Int × Int × Int × Int × (List z31))):Option (Sum ((List z0r) × Int × Int × Int × Int × (List z31)) (Sum (z0i × Int × Int) ((List z0r) × Int × Int × Int × Int × (List z31)))) :=
 z0l (z01.mk x5.1 x5.2.1 x5.2.2.1 x5.2.2.2.1 x5.2.2.2.2.1) (ByteArray.mk #[112,114,111,99])>>=fun v16 =>
 if v16 then (z0k (z01.mk x5.1 (IntKind.i64.wrap (x5.2.1+1)) x5.2.2.1 x5.2.2.2.1 x5.2.2.2.2.1)>>=fun v17 =>
 z0a v17.1 (ByteArray.mk #[123])>>=fun v18 =>
 iter (z5x) (v18.L,v18.I,v18.End,v18.E,v18.At,[])>>=Sum.elim (fun _=>none) (fun j6 =>
 z8d (z01.mk j6.1 j6.2.1 j6.2.2.1 j6.2.2.2.1 j6.2.2.2.2.1) 0>>=fun v23 =>
 z0a v23.1 (ByteArray.mk #[125])>>=fun v24 =>
 app 64 x5.2.2.2.2.2 [(z31.mk v17.2 j6.2.2.2.2.2 v23.2)]>>=fun v25 =>
 some (.inl (v24.L,v24.I,v24.End,v24.E,v24.At,v25))))
 else (some (.inr (.inr (x5.1,x5.2.1,x5.2.2.1,x5.2.2.2.1,x5.2.2.2.2.1,x5.2.2.2.2.2))))
noncomputable def zfm (a0:ByteArray):Option (z0i × Int × Int) :=
 zh9 a0>>=fun v1 =>
 if (v1.2.2 != 0) then (some ((z0i.mk [] [] []),v1.2.1,v1.2.2))
 else (iter (z8j) (v1.1,0,(a0.size:Int),0,0,[])>>=Sum.elim (fun _=>none) (fun j1 =>
 iter (z8k) (j1.1,j1.2.1,j1.2.2.1,j1.2.2.2.1,j1.2.2.2.2.1,[])>>=Sum.elim (fun _=>none) (fun j2 =>
 iter (z7n) (j2.1,j2.2.1,j2.2.2.1,j2.2.2.2.1,j2.2.2.2.2.1,[])>>=Sum.elim (fun _=>none) (fun j5 =>
 if (decide (j5.2.1<(j5.1.length:Int))) then (z3o (z01.mk j5.1 j5.2.1 j5.2.2.1 j5.2.2.2.1 j5.2.2.2.2.1) 5>>=fun v26 =>
 if (v26.E != 0) then (some ((z0i.mk [] [] []),v26.At,v26.E))
 else (some ((z0i.mk j1.2.2.2.2.2 j2.2.2.2.2.2 j5.2.2.2.2.2),0,0)))
 else (if (j5.2.2.2.1 != 0) then (some ((z0i.mk [] [] []),j5.2.2.2.2.1,j5.2.2.2.1))
 else (some ((z0i.mk j1.2.2.2.2.2 j2.2.2.2.2.2 j5.2.2.2.2.2),0,0)))))))
def zgi (r:(z0i × Int × Int)):List XV:=[.agg (bs (z0e r.1)),xI r.2.1,xI r.2.2]
def zna (r:(z0i × Int × Int)):z0p:=[]
noncomputable def zem (r:(z0i × Int × Int)):Tg:=.r false Tryz.f10.results.toList 0 (zgi r) (zna r)
noncomputable def zcu (F_l02_Expr:z04→Option z06) (a0:z04) (x1:(Int × (List z06))):Option (Sum (Int × (List z06)) (Sum z06 (List z06))) :=
 if (decide (x1.1<(a0.Kids.length:Int))) then (idx a0.Kids x1.1>>=fun v1 =>
 F_l02_Expr v1>>=fun v2 =>
 app 56 x1.2 [v2]>>=fun v3 =>
 some (.inl ((IntKind.i64.wrap (x1.1+1)),v3)))
 else (some (.inr (.inr x1.2)))
def z9f (r:z06):List XV:=[.agg (bs (z3d r))]
def zp4 (r:z06):z0p:=[]
noncomputable def zxv (r:z06):Tg:=.r false Tryz.f73.results.toList 0 (z9f r) (zp4 r)
noncomputable def zaq:Nat→z04→Option z06
  | 0,_=>none
  | n+1,a0=>iter (zcu (zaq n) a0) (0,[])>>=Sum.elim (fun _=>none) (fun j1 =>
 some (z06.mk a0.Kind a0.Num a0.Name j1))
noncomputable def zkd (a0:z04):Option z06:=unf fun n=>zaq n a0
noncomputable def zke (a0:z1k):Option z3t :=
 zkd a0.L>>=fun v1 =>
 zkd a0.R>>=fun v2 =>
 some (z3t.mk a0.Op v1 v2)
def zlb (r:z3t):List XV:=[.agg (bs (ze4 r))]
def zxw (r:z3t):z0p:=[]
noncomputable def zby (F_l02_Stmts:(List z03)→Option (List z05)) (v1:z03) (x2:(Int × (List z0y))):Option (Sum (Int × (List z0y)) (Sum (List z05) (List z0y))) :=
 if (decide (x2.1<(v1.Arms.length:Int))) then (idx v1.Arms x2.1>>=fun v6 =>
 F_l02_Stmts v6.Body>>=fun v7 =>
 app 56 x2.2 [(z0y.mk v6.Tag v6.Var v7)]>>=fun v8 =>
 some (.inl ((IntKind.i64.wrap (x2.1+1)),v8)))
 else (some (.inr (.inr x2.2)))
noncomputable def zbz (F_l02_Stmts:(List z03)→Option (List z05)) (a0:(List z03)) (x1:(Int × (List z05))):Option (Sum (Int × (List z05)) (Sum (List z05) (List z05))) :=
 if (decide (x1.1<(a0.length:Int))) then (idx a0 x1.1>>=fun v1 =>
 zkd v1.E>>=fun v2 =>
 zke v1.C>>=fun v3 =>
 F_l02_Stmts v1.Body>>=fun v4 =>
 F_l02_Stmts v1.Else>>=fun v5 =>
 iter (zby F_l02_Stmts v1) (0,[])>>=Sum.elim (fun _=>none) (fun j2 =>
 app 288 x1.2 [(z05.mk v1.Kind v1.Name v1.Tag v2 v3 v4 v5 j2)]>>=fun v9 =>
 some (.inl ((IntKind.i64.wrap (x1.1+1)),v9))))
 else (some (.inr (.inr x1.2)))
def z8p (r:(List z05)):List XV:=[xL (List.map z16 r)]
def znb (r:(List z05)):z0p:=[]
noncomputable def znc (r:(List z05)):Tg:=.r false Tryz.f43.results.toList 0 (z8p r) (znb r)
noncomputable def z8e:Nat→(List z03)→Option (List z05)
  | 0,_=>none
  | n+1,a0=>iter (zbz (z8e n) a0) (0,[])>>=Sum.elim (fun _=>none) (fun j1 =>
 some j1)
noncomputable def znd (a0:(List z03)):Option (List z05):=unf fun n=>z8e n a0
noncomputable def zaa (a0:z0i) (x1:(Int × (List z39))):Option (Sum (Int × (List z39)) (Sum z23 (List z39))) :=
 if (decide (x1.1<(a0.Chans.length:Int))) then (idx a0.Chans x1.1>>=fun v1 =>
 app 16 [] v1.Tags>>=fun v2 =>
 app 88 x1.2 [(z39.mk v1.Name v1.Kind v1.Size v1.From v1.To v2)]>>=fun v3 =>
 some (.inl ((IntKind.i64.wrap (x1.1+1)),v3)))
 else (some (.inr (.inr x1.2)))
noncomputable def zab (a0:z0i) (x2:(Int × (List z3g))) (x3:(Int × (List z4j))):Option (Sum (Int × (List z4j)) (Sum z23 (List z4j))) :=
 idx a0.Rules x2.1>>=fun v5 =>
 if (decide (x3.1<(v5.Moves.length:Int))) then (idx a0.Rules x2.1>>=fun v6 =>
 idx v6.Moves x3.1>>=fun v7 =>
 app 32 x3.2 [(z4j.mk v7.From v7.Tag v7.To)]>>=fun v8 =>
 some (.inl ((IntKind.i64.wrap (x3.1+1)),v8)))
 else (some (.inr (.inr x3.2)))
noncomputable def zac (a0:z0i) (x2:(Int × (List z3g))):Option (Sum (Int × (List z3g)) (Sum z23 (List z3g))) :=
 if (decide (x2.1<(a0.Rules.length:Int))) then (idx a0.Rules x2.1>>=fun v4 =>
 iter (zab a0 x2) (0,[])>>=Sum.elim (fun _=>none) (fun j3 =>
 app 40 x2.2 [(z3g.mk v4.Chan j3)]>>=fun v9 =>
 some (.inl ((IntKind.i64.wrap (x2.1+1)),v9))))
 else (some (.inr (.inr x2.2)))
noncomputable def zad (a0:z0i) (x4:(Int × (List z3h))):Option (Sum (Int × (List z3h)) (Sum z23 (List z3h))) :=
 if (decide (x4.1<(a0.Procs.length:Int))) then (idx a0.Procs x4.1>>=fun v10 =>
 app 16 [] v10.Vars>>=fun v11 =>
 znd v10.Body>>=fun v12 =>
 app 64 x4.2 [(z3h.mk v10.Name v11 v12)]>>=fun v13 =>
 some (.inl ((IntKind.i64.wrap (x4.1+1)),v13)))
 else (some (.inr (.inr x4.2)))
noncomputable def zcv (a0:z0i):Option z23 :=
 iter (zaa a0) (0,[])>>=Sum.elim (fun _=>none) (fun j1 =>
 iter (zac a0) (0,[])>>=Sum.elim (fun _=>none) (fun j2 =>
 iter (zad a0) (0,[])>>=Sum.elim (fun _=>none) (fun j4 =>
 some (z23.mk j1 j2 j4))))
def zde (r:z23):List XV:=[.agg (bs (z9r r))]
def zlt (r:z23):z0p:=[]
noncomputable def zf5 (r:z23):Tg:=.r false Tryz.f13.results.toList 0 (zde r) (zlt r)
noncomputable def zc0 (a0:(List z4j)) (a1:(List z4j)) (x1:Int):Option (Sum Int (Sum Bool Unit)) :=
 if (decide (x1<(a0.length:Int))) then (idx a0 x1>>=fun v1 =>
 idx a1 x1>>=fun v2 =>
 if (!((v1.From:Int)==v2.From&&(v1.Tag.toList==v2.Tag.toList&&((v1.To:Int)==v2.To&&true)))) then (some (.inr (.inl false)))
 else (some (.inl (IntKind.i64.wrap (x1+1)))))
 else (some (.inr (.inr ())))
noncomputable def zhf (a0:(List z4j)) (a1:(List z4j)):Option Bool :=
 if ((a0.length:Int) != (a1.length:Int)) then (some false)
 else (iter (zc0 a0 a1) 0>>=Sum.elim (fun r=>some r) (fun j1 =>
 some true))
def zgj (r:Bool):List XV:=[xB r]
def zne (r:Bool):z0p:=[]
noncomputable def ztt (r:Bool):Tg:=.r false Tryz.f35.results.toList 0 (zgj r) (zne r)
noncomputable def zia (a0:z3g) (a1:z3g):Option Bool :=
 if (a0.Chan.toList==a1.Chan.toList) then (zhf a0.Moves a1.Moves>>=fun v1 =>
 some v1)
 else (some false)
def zhg (r:Bool):List XV:=[xB r]
def zs2 (r:Bool):z0p:=[]
noncomputable def z5n (a0:(List z3g)) (a1:(List z3g)) (x1:Int):Option (Sum Int (Sum Bool Unit)) :=
 if (decide (x1<(a0.length:Int))) then (idx a0 x1>>=fun v1 =>
 idx a1 x1>>=fun v2 =>
 zia v1 v2>>=fun v3 =>
 if (!v3) then (some (.inr (.inl false)))
 else (some (.inl (IntKind.i64.wrap (x1+1)))))
 else (some (.inr (.inr ())))
noncomputable def z7i (a0:(List z3g)) (a1:(List z3g)):Option Bool :=
 if ((a0.length:Int) != (a1.length:Int)) then (some false)
 else (iter (z5n a0 a1) 0>>=Sum.elim (fun r=>some r) (fun j1 =>
 some true))
def z86 (r:Bool):List XV:=[xB r]
def zci (r:Bool):z0p:=[]
noncomputable def zgv (r:Bool):Tg:=.r false Tryz.f33.results.toList 0 (z86 r) (zci r)
noncomputable def z42 (a0:(List ByteArray)) (a1:(List ByteArray)) (x1:Int):Option (Sum Int (Sum Bool Unit)) :=
 if (decide (x1<(a0.length:Int))) then (idx a0 x1>>=fun v1 =>
 idx a1 x1>>=fun v2 =>
 if (!(v1.toList==v2.toList)) then (some (.inr (.inl false)))
 else (some (.inl (IntKind.i64.wrap (x1+1)))))
 else (some (.inr (.inr ())))
noncomputable def z4m (a0:(List ByteArray)) (a1:(List ByteArray)):Option Bool :=
 if ((a0.length:Int) != (a1.length:Int)) then (some false)
 else (iter (z42 a0 a1) 0>>=Sum.elim (fun r=>some r) (fun j1 =>
 some true))
def z44 (r:Bool):List XV:=[xB r]
def z9c (r:Bool):z0p:=[]
noncomputable def zdk (r:Bool):Tg:=.r false Tryz.f38.results.toList 0 (z44 r) (z9c r)
def z5g (r:Bool):List XV:=[xB r]
def zo8 (r:Bool):z0p:=[]
noncomputable def z4z (F_ast_sameExpr:z06→z06→Option Bool) (F_ast_Expr__ast_sameExpr:(List z06)→(List z06)→Option Bool) (a0:(List z06)) (a1:(List z06)) (x1:Int):Option (Sum Int (Sum Bool Unit)) :=
 if (decide (x1<(a0.length:Int))) then (idx a0 x1>>=fun v1 =>
 idx a1 x1>>=fun v2 =>
 F_ast_sameExpr v1 v2>>=fun v3 =>
 if (!v3) then (some (.inr (.inl false)))
 else (some (.inl (IntKind.i64.wrap (x1+1)))))
 else (some (.inr (.inr ())))
def z4n (r:Bool):List XV:=[xB r]
def zc1 (r:Bool):z0p:=[]
noncomputable def zfn (r:Bool):Tg:=.r false Tryz.f101.results.toList 0 (z4n r) (zc1 r)
mutual
noncomputable def z5o:Nat→z06→z06→Option Bool
  | 0,_,_=>none
  | n+1,a0,a1=>((if (a0.Kind != a1.Kind) then (some true)
 else (if (a0.Kind==1) then (if (a0.Num != a1.Num) then (some true)
 else (if (a0.Kind==2) then (some (!(a0.Name.toList==a1.Name.toList)))
 else (some false)))
 else (if (a0.Kind==2) then (some (!(a0.Name.toList==a1.Name.toList)))
 else (some false))):Option Bool)>>=fun j1 =>
 if j1 then (some false)
 else ((z2n n) a0.Kids a1.Kids>>=fun v1 =>
 some v1))
noncomputable def z2n:Nat→(List z06)→(List z06)→Option Bool
  | 0,_,_=>none
  | n+1,a0,a1=>if ((a0.length:Int) != (a1.length:Int)) then (some false)
 else (iter (z4z (z5o n) (z2n n) a0 a1) 0>>=Sum.elim (fun r=>some r) (fun j1 =>
 some true))
end
noncomputable def zc2 (a0:z06) (a1:z06):Option Bool:=unf fun n=>z5o n a0 a1
noncomputable def z9v (a0:z3t) (a1:z3t):Option Bool :=
 if (a0.Op==a1.Op) then (zc2 a0.L a1.L>>=fun v1 =>
 if v1 then (zc2 a0.R a1.R>>=fun v2 =>
 some v2)
 else (some false))
 else (some false)
def z7o (r:Bool):List XV:=[xB r]
def zo9 (r:Bool):z0p:=[]
noncomputable def z50 (F_ast_Stmt__ast_sameStmt:(List z05)→(List z05)→Option Bool) (F_ast_sameStmt:z05→z05→Option Bool) (F_ast_Arm__ast_sameArm:(List z0y)→(List z0y)→Option Bool) (F_ast_sameArm:z0y→z0y→Option Bool) (a0:(List z05)) (a1:(List z05)) (x1:Int):Option (Sum Int (Sum Bool Unit)) :=
 if (decide (x1<(a0.length:Int))) then (idx a0 x1>>=fun v1 =>
 idx a1 x1>>=fun v2 =>
 F_ast_sameStmt v1 v2>>=fun v3 =>
 if (!v3) then (some (.inr (.inl false)))
 else (some (.inl (IntKind.i64.wrap (x1+1)))))
 else (some (.inr (.inr ())))
def z1n (r:Bool):List XV:=[xB r]
def zc3 (r:Bool):z0p:=[]
noncomputable def zfo (r:Bool):Tg:=.r false Tryz.f39.results.toList 0 (z1n r) (zc3 r)
def z7p (r:Bool):List XV:=[xB r]
def zoa (r:Bool):z0p:=[]
noncomputable def z5p (F_ast_Stmt__ast_sameStmt:(List z05)→(List z05)→Option Bool) (F_ast_sameStmt:z05→z05→Option Bool) (F_ast_Arm__ast_sameArm:(List z0y)→(List z0y)→Option Bool) (F_ast_sameArm:z0y→z0y→Option Bool) (a0:(List z0y)) (a1:(List z0y)) (x1:Int):Option (Sum Int (Sum Bool Unit)) :=
 if (decide (x1<(a0.length:Int))) then (idx a0 x1>>=fun v1 =>
 idx a1 x1>>=fun v2 =>
 F_ast_sameArm v1 v2>>=fun v3 =>
 if (!v3) then (some (.inr (.inl false)))
 else (some (.inl (IntKind.i64.wrap (x1+1)))))
 else (some (.inr (.inr ())))
def z40 (r:Bool):List XV:=[xB r]
def zcj (r:Bool):z0p:=[]
noncomputable def zgw (r:Bool):Tg:=.r false Tryz.f71.results.toList 0 (z40 r) (zcj r)
def z8l (r:Bool):List XV:=[xB r]
def zpz (r:Bool):z0p:=[]
mutual
noncomputable def z13:Nat→(List z05)→(List z05)→Option Bool
  | 0,_,_=>none
  | n+1,a0,a1=>if ((a0.length:Int) != (a1.length:Int)) then (some false)
 else (iter (z50 (z13 n) (z41 n) (z1s n) (z4p n) a0 a1) 0>>=Sum.elim (fun r=>some r) (fun j1 =>
 some true))
noncomputable def z41:Nat→z05→z05→Option Bool
  | 0,_,_=>none
  | n+1,a0,a1=>if (a0.Kind != a1.Kind) then (some false)
 else (if (a0.Kind==1) then (((if (a0.Name.toList==a1.Name.toList) then (zc2 a0.E a1.E>>=fun v1 =>
 some v1)
 else (some false):Option Bool)>>=fun j1 =>
 some j1))
 else (if (a0.Kind==2) then (((z9v a0.C a1.C>>=fun v2 =>
 if v2 then ((z13 n) a0.Body a1.Body>>=fun v3 =>
 if v3 then ((z13 n) a0.Else a1.Else>>=fun v4 =>
 some v4)
 else (some false))
 else (some false):Option Bool)>>=fun j2 =>
 some j2))
 else (if (a0.Kind==3) then (((z9v a0.C a1.C>>=fun v5 =>
 if v5 then ((z13 n) a0.Body a1.Body>>=fun v6 =>
 some v6)
 else (some false):Option Bool)>>=fun j3 =>
 some j3))
 else (if (a0.Kind==4) then (((if (a0.Name.toList==a1.Name.toList) then (if (a0.Tag.toList==a1.Tag.toList) then (zc2 a0.E a1.E>>=fun v7 =>
 some v7)
 else (some false))
 else (some false):Option Bool)>>=fun j4 =>
 some j4))
 else (if (a0.Kind==5) then (((if (a0.Name.toList==a1.Name.toList) then ((z1s n) a0.Arms a1.Arms>>=fun v8 =>
 some v8)
 else (some false):Option Bool)>>=fun j5 =>
 some j5))
 else (if (a0.Kind==6) then (z9v a0.C a1.C>>=fun v9 =>
 some v9)
 else (if (a0.Kind==7) then (some (a0.Name.toList==a1.Name.toList))
 else (some true))))))))
noncomputable def z1s:Nat→(List z0y)→(List z0y)→Option Bool
  | 0,_,_=>none
  | n+1,a0,a1=>if ((a0.length:Int) != (a1.length:Int)) then (some false)
 else (iter (z5p (z13 n) (z41 n) (z1s n) (z4p n) a0 a1) 0>>=Sum.elim (fun r=>some r) (fun j1 =>
 some true))
noncomputable def z4p:Nat→z0y→z0y→Option Bool
  | 0,_,_=>none
  | n+1,a0,a1=>if (a0.Tag.toList==a1.Tag.toList) then (if (a0.Var.toList==a1.Var.toList) then ((z13 n) a0.Body a1.Body>>=fun v1 =>
 some v1)
 else (some false))
 else (some false)
end
noncomputable def z9l (a0:(List z05)) (a1:(List z05)):Option Bool:=unf fun n=>z13 n a0 a1
noncomputable def zib (a0:z3h) (a1:z3h):Option Bool :=
 if (a0.Name.toList==a1.Name.toList) then (z4m a0.Vars a1.Vars>>=fun v1 =>
 if v1 then (z9l a0.Body a1.Body>>=fun v2 =>
 some v2)
 else (some false))
 else (some false)
def zhh (r:Bool):List XV:=[xB r]
def zs3 (r:Bool):z0p:=[]
noncomputable def z5q (a0:(List z3h)) (a1:(List z3h)) (x1:Int):Option (Sum Int (Sum Bool Unit)) :=
 if (decide (x1<(a0.length:Int))) then (idx a0 x1>>=fun v1 =>
 idx a1 x1>>=fun v2 =>
 zib v1 v2>>=fun v3 =>
 if (!v3) then (some (.inr (.inl false)))
 else (some (.inl (IntKind.i64.wrap (x1+1)))))
 else (some (.inr (.inr ())))
noncomputable def z7j (a0:(List z3h)) (a1:(List z3h)):Option Bool :=
 if ((a0.length:Int) != (a1.length:Int)) then (some false)
 else (iter (z5q a0 a1) 0>>=Sum.elim (fun r=>some r) (fun j1 =>
 some true))
def z87 (r:Bool):List XV:=[xB r]
def zck (r:Bool):z0p:=[]
noncomputable def zgx (r:Bool):Tg:=.r false Tryz.f36.results.toList 0 (z87 r) (zck r)
noncomputable def zf6 (a0:z39) (a1:z39):Option Bool :=
 ((if (a0.Name.toList==a1.Name.toList) then (if (a0.Kind==a1.Kind) then (if (a0.Size==a1.Size) then (if (a0.From.toList==a1.From.toList) then (if (a0.To.toList==a1.To.toList) then (z4m a0.Tags a1.Tags>>=fun v1 =>
 some v1)
 else (some false))
 else (some false))
 else (some false))
 else (some false))
 else (some false):Option Bool)>>=fun j1 =>
 some j1)
def zfc (r:Bool):List XV:=[xB r]
def zob (r:Bool):z0p:=[]
noncomputable def z52 (a0:(List z39)) (a1:(List z39)) (x1:Int):Option (Sum Int (Sum Bool Unit)) :=
 if (decide (x1<(a0.length:Int))) then (idx a0 x1>>=fun v1 =>
 idx a1 x1>>=fun v2 =>
 zf6 v1 v2>>=fun v3 =>
 if (!v3) then (some (.inr (.inl false)))
 else (some (.inl (IntKind.i64.wrap (x1+1)))))
 else (some (.inr (.inr ())))
noncomputable def z6n (a0:(List z39)) (a1:(List z39)):Option Bool :=
 if ((a0.length:Int) != (a1.length:Int)) then (some false)
 else (iter (z52 a0 a1) 0>>=Sum.elim (fun r=>some r) (fun j1 =>
 some true))
def z7b (r:Bool):List XV:=[xB r]
def zc4 (r:Bool):z0p:=[]
noncomputable def zfp (r:Bool):Tg:=.r false Tryz.f41.results.toList 0 (z7b r) (zc4 r)
noncomputable def zkf (a0:z23) (a1:z23):Option Bool :=
 z7i a0.Rules a1.Rules>>=fun v1 =>
 z7j a0.Procs a1.Procs>>=fun v2 =>
 if v1 then (if v2 then (z6n a0.Chans a1.Chans>>=fun v3 =>
 some v3)
 else (some false))
 else (some false)
def zic (r:Bool):List XV:=[xB r]
def zxx (r:Bool):z0p:=[]
noncomputable def zaw (a0:(List ByteArray)) (a1:(List ByteArray)) (x1:Int):Option (Sum Int (Sum Bool Unit)) :=
 if (decide (x1<(a0.length:Int))) then (idx a0 x1>>=fun v1 =>
 idx a1 x1>>=fun v2 =>
 if (!(v1.toList==v2.toList)) then (some (.inr (.inl false)))
 else (some (.inl (IntKind.i64.wrap (x1+1)))))
 else (some (.inr (.inr ())))
noncomputable def zae (a0:(List ByteArray)) (a1:(List ByteArray)):Option Bool :=
 if ((a0.length:Int) != (a1.length:Int)) then (some false)
 else (iter (zaw a0 a1) 0>>=Sum.elim (fun r=>some r) (fun j1 =>
 some true))
def z8x (r:Bool):List XV:=[xB r]
def zhi (r:Bool):z0p:=[]
noncomputable def znf (r:Bool):Tg:=.r false Tryz.f48.results.toList 0 (z8x r) (zhi r)
noncomputable def z8y (F_r02_sameExpr:z04→z04→Option Bool) (a0:z04) (a1:z04) (x2:Int):Option (Sum Int (Sum Bool Unit)) :=
 if (decide (x2<(a0.Kids.length:Int))) then (idx a0.Kids x2>>=fun v1 =>
 idx a1.Kids x2>>=fun v2 =>
 F_r02_sameExpr v1 v2>>=fun v3 =>
 if (!v3) then (some (.inr (.inl false)))
 else (some (.inl (IntKind.i64.wrap (x2+1)))))
 else (some (.inr (.inr ())))
def z5h (r:Bool):List XV:=[xB r]
def zit (r:Bool):z0p:=[]
noncomputable def zoc (r:Bool):Tg:=.r false Tryz.f82.results.toList 0 (z5h r) (zit r)
noncomputable def z60:Nat→z04→z04→Option Bool
  | 0,_,_=>none
  | n+1,a0,a1=>((if (a0.Kind != a1.Kind) then (some true)
 else (if (a0.Kind==1) then (if (a0.Num != a1.Num) then (some true)
 else (if (a0.Kind==2) then (if (!(a0.Name.toList==a1.Name.toList)) then (some true)
 else (some ((a0.Kids.length:Int) != (a1.Kids.length:Int))))
 else (some ((a0.Kids.length:Int) != (a1.Kids.length:Int)))))
 else (if (a0.Kind==2) then (if (!(a0.Name.toList==a1.Name.toList)) then (some true)
 else (some ((a0.Kids.length:Int) != (a1.Kids.length:Int))))
 else (some ((a0.Kids.length:Int) != (a1.Kids.length:Int))))):Option Bool)>>=fun j1 =>
 if j1 then (some false)
 else (iter (z8y (z60 n) a0 a1) 0>>=Sum.elim (fun r=>some r) (fun j2 =>
 some true)))
noncomputable def zc5 (a0:z04) (a1:z04):Option Bool:=unf fun n=>z60 n a0 a1
noncomputable def zdf (a0:z1k) (a1:z1k):Option Bool :=
 if (a0.Op==a1.Op) then (zc5 a0.L a1.L>>=fun v1 =>
 if v1 then (zc5 a0.R a1.R>>=fun v2 =>
 some v2)
 else (some false))
 else (some false)
def z7q (r:Bool):List XV:=[xB r]
def zod (r:Bool):z0p:=[]
noncomputable def zdl (F_r02_sameStmts:(List z03)→(List z03)→Option Bool) (v1:z03) (v2:z03) (x4:(Bool × Int)):Option (Sum (Bool × Int) (Sum Bool Bool)) :=
 ((if (decide (x4.2<(v1.Arms.length:Int))) then (some x4.1)
 else (some false):Option Bool)>>=fun j5 =>
 if j5 then (((idx v1.Arms x4.2>>=fun v10 =>
 idx v2.Arms x4.2>>=fun v11 =>
 if (v10.Tag.toList==v11.Tag.toList) then (if (v10.Var.toList==v11.Var.toList) then (F_r02_sameStmts v10.Body v11.Body>>=fun v12 =>
 some v12)
 else (some false))
 else (some false):Option Bool)>>=fun j6 =>
 some (.inl (j6,(IntKind.i64.wrap (x4.2+1))))))
 else (some (.inr (.inr x4.1))))
noncomputable def z7d (F_r02_sameStmts:(List z03)→(List z03)→Option Bool) (a0:(List z03)) (a1:(List z03)) (x1:Int):Option (Sum Int (Sum Bool Unit)) :=
 if (decide (x1<(a0.length:Int))) then (((idx a0 x1>>=fun v1 =>
 idx a1 x1>>=fun v2 =>
 if (v1.Kind != v2.Kind) then (some (.inl false))
 else (if (v1.Kind==1) then (if (v1.Name.toList==v2.Name.toList) then (zc5 v1.E v2.E>>=fun v3 =>
 if (!v3) then (some (.inl false))
 else (some (.inr ())))
 else (some (.inl false)))
 else (if (v1.Kind==2) then (zdf v1.C v2.C>>=fun v4 =>
 if v4 then (F_r02_sameStmts v1.Body v2.Body>>=fun v5 =>
 if v5 then (F_r02_sameStmts v1.Else v2.Else>>=fun v6 =>
 if (!v6) then (some (.inl false))
 else (some (.inr ())))
 else (some (.inl false)))
 else (some (.inl false)))
 else (if (v1.Kind==3) then (zdf v1.C v2.C>>=fun v7 =>
 if v7 then (F_r02_sameStmts v1.Body v2.Body>>=fun v8 =>
 if (!v8) then (some (.inl false))
 else (some (.inr ())))
 else (some (.inl false)))
 else (if (v1.Kind==4) then (if (v1.Name.toList==v2.Name.toList) then (if (v1.Tag.toList==v2.Tag.toList) then (zc5 v1.E v2.E>>=fun v9 =>
 if (!v9) then (some (.inl false))
 else (some (.inr ())))
 else (some (.inl false)))
 else (some (.inl false)))
 else (if (v1.Kind==5) then (((if (v1.Name.toList==v2.Name.toList) then (some ((v1.Arms.length:Int)==(v2.Arms.length:Int)))
 else (some false):Option Bool)>>=fun j3 =>
 iter (zdl F_r02_sameStmts v1 v2) (j3,0)>>=Sum.elim (fun _=>none) (fun j4 =>
 if (!j4) then (some (.inl false))
 else (some (.inr ())))))
 else (if (v1.Kind==6) then (zdf v1.C v2.C>>=fun v13 =>
 if (!v13) then (some (.inl false))
 else (some (.inr ())))
 else (if (v1.Kind==7) then (if (!(v1.Name.toList==v2.Name.toList)) then (some (.inl false))
 else (some (.inr ())))
 else (some (.inr ()))))))))):Option (Sum Bool Unit))>>=Sum.elim (fun r=>some (.inr (.inl r))) (fun j2 =>
 some (.inl (IntKind.i64.wrap (x1+1))))))
 else (some (.inr (.inr ())))
def z4y (r:Bool):List XV:=[xB r]
def zhj (r:Bool):z0p:=[]
noncomputable def zen (r:Bool):Tg:=.r false Tryz.f49.results.toList 0 (z4y r) (zhj r)
noncomputable def z5i:Nat→(List z03)→(List z03)→Option Bool
  | 0,_,_=>none
  | n+1,a0,a1=>if ((a0.length:Int) != (a1.length:Int)) then (some false)
 else (iter (z7d (z5i n) a0 a1) 0>>=Sum.elim (fun r=>some r) (fun j1 =>
 some true))
noncomputable def zgk (a0:(List z03)) (a1:(List z03)):Option Bool:=unf fun n=>z5i n a0 a1
noncomputable def zeo (a0:z0i) (a1:z0i) (x2:Int):Option (Sum Int (Sum Bool Unit)) :=
 if (decide (x2<(a0.Chans.length:Int))) then (idx a0.Chans x2>>=fun v1 =>
 idx a1.Chans x2>>=fun v2 =>
 ((if (!(v1.Name.toList==v2.Name.toList)) then (some true)
 else (if (v1.Kind != v2.Kind) then (some true)
 else (if (v1.Size != v2.Size) then (some true)
 else (if (!(v1.From.toList==v2.From.toList)) then (some true)
 else (if (!(v1.To.toList==v2.To.toList)) then (some true)
 else (zae v1.Tags v2.Tags>>=fun v3 =>
 some (!v3)))))):Option Bool)>>=fun j3 =>
 if j3 then (some (.inr (.inl false)))
 else (some (.inl (IntKind.i64.wrap (x2+1))))))
 else (some (.inr (.inr ())))
noncomputable def zjj (v4:z4t) (v5:z4t) (x6:Int):Option (Sum Int (Sum Bool Unit)) :=
 if (decide (x6<(v4.Moves.length:Int))) then (idx v4.Moves x6>>=fun v6 =>
 idx v5.Moves x6>>=fun v7 =>
 if (!((v6.From:Int)==v7.From&&(v6.Tag.toList==v7.Tag.toList&&((v6.To:Int)==v7.To&&true)))) then (some (.inr (.inl false)))
 else (some (.inl (IntKind.i64.wrap (x6+1)))))
 else (some (.inr (.inr ())))
noncomputable def zep (a0:z0i) (a1:z0i) (x4:Int):Option (Sum Int (Sum Bool Unit)) :=
 if (decide (x4<(a0.Rules.length:Int))) then (idx a0.Rules x4>>=fun v4 =>
 idx a1.Rules x4>>=fun v5 =>
 ((if (!(v4.Chan.toList==v5.Chan.toList)) then (some true)
 else (some ((v4.Moves.length:Int) != (v5.Moves.length:Int))):Option Bool)>>=fun j5 =>
 if j5 then (some (.inr (.inl false)))
 else (iter (zjj v4 v5) 0>>=Sum.elim (fun r=>some (.inr (.inl r))) (fun j6 =>
 some (.inl (IntKind.i64.wrap (x4+1)))))))
 else (some (.inr (.inr ())))
noncomputable def z9w (a0:z0i) (a1:z0i) (x7:Int):Option (Sum Int (Sum Bool Unit)) :=
 if (decide (x7<(a0.Procs.length:Int))) then (idx a0.Procs x7>>=fun v8 =>
 idx a1.Procs x7>>=fun v9 =>
 ((if (!(v8.Name.toList==v9.Name.toList)) then (some true)
 else (zae v8.Vars v9.Vars>>=fun v10 =>
 if (!v10) then (some true)
 else (zgk v8.Body v9.Body>>=fun v11 =>
 some (!v11))):Option Bool)>>=fun j8 =>
 if j8 then (some (.inr (.inl false)))
 else (some (.inl (IntKind.i64.wrap (x7+1))))))
 else (some (.inr (.inr ())))
noncomputable def zid (a0:z0i) (a1:z0i):Option Bool :=
 ((if ((a0.Chans.length:Int) != (a1.Chans.length:Int)) then (some true)
 else (if ((a0.Rules.length:Int) != (a1.Rules.length:Int)) then (some true)
 else (some ((a0.Procs.length:Int) != (a1.Procs.length:Int)))):Option Bool)>>=fun j1 =>
 if j1 then (some false)
 else (iter (zeo a0 a1) 0>>=Sum.elim (fun r=>some r) (fun j2 =>
 iter (zep a0 a1) 0>>=Sum.elim (fun r=>some r) (fun j4 =>
 iter (z9w a0 a1) 0>>=Sum.elim (fun r=>some r) (fun j7 =>
 some true)))))
def zie (r:Bool):List XV:=[xB r]
def zp5 (r:Bool):z0p:=[]
noncomputable def zif (r:Bool):Tg:=.r false Tryz.f15.results.toList 0 (zie r) (zp5 r)
noncomputable def z7w (v1:Int) (x2:(ByteArray × Int)):Option (Sum (ByteArray × Int) (Sum Bool ByteArray)) :=
 if (decide (x2.2<(IntKind.i64.wrap v1))) then (scat x2.1 (ByteArray.mk #[40])>>=fun v5 =>
 some (.inl (v5,(IntKind.i64.wrap (x2.2+1)))))
 else (some (.inr (.inr x2.1)))
noncomputable def z66 (v2:((List ByteArray) × Int)) (x3:(ByteArray × Int)):Option (Sum (ByteArray × Int) (Sum Bool ByteArray)) :=
 if (decide (x3.2<(IntKind.i64.wrap ((v2.1.length:Int) - 2)))) then (idx v2.1 x3.2>>=fun v6 =>
 scat x3.1 v6>>=fun v7 =>
 scat v7 (ByteArray.mk #[32])>>=fun v8 =>
 some (.inl (v8,(IntKind.i64.wrap (x3.2+1)))))
 else (some (.inr (.inr x3.1)))
noncomputable def z7x (v1:Int) (x4:(ByteArray × Int)):Option (Sum (ByteArray × Int) (Sum Bool ByteArray)) :=
 if (decide (x4.2<(IntKind.i64.wrap v1))) then (scat x4.1 (ByteArray.mk #[41])>>=fun v9 =>
 some (.inl (v9,(IntKind.i64.wrap (x4.2+1)))))
 else (some (.inr (.inr x4.1)))
noncomputable def zar (a0:z04) (a1:Int):Option Bool :=
 rem (IntKind.u64.wrap a1) 30>>=fun v1 =>
 zej (z0i.mk [] [] [(z31.mk (ByteArray.mk #[112]) [] [(z03.mk 1 (ByteArray.mk #[120]) (ByteArray.mk #[]) a0 (z1k.mk 0 (z04.mk 0 0 (ByteArray.mk #[]) []) (z04.mk 0 0 (ByteArray.mk #[]) [])) [] [] [])])])>>=fun v2 =>
 ((ze6>>=fun v3 =>
 if (!v3) then (some true)
 else (if (v2.2 != 0) then (some true)
 else (some (decide ((v2.1.length:Int) > 400)))):Option Bool)>>=fun j1 =>
 if j1 then (ze6>>=fun v4 =>
 some v4)
 else (iter (z7w v1) ((ByteArray.mk #[112,114,111,99,32,112,32,123,32,120,32,61,32]),0)>>=Sum.elim (fun _=>none) (fun j2 =>
 iter (z66 v2) (j2,5)>>=Sum.elim (fun _=>none) (fun j3 =>
 iter (z7x v1) (j3,0)>>=Sum.elim (fun _=>none) (fun j4 =>
 scat j4 (ByteArray.mk #[59,32,125])>>=fun v10 =>
 z9u v10>>=fun v11 =>
 zfm v10>>=fun v12 =>
 ((if (v11.2.1 != v12.2.1) then (some true)
 else (some (v11.2.2 != v12.2.2)):Option Bool)>>=fun j5 =>
 if j5 then (some false)
 else (if (v11.2.2==6) then (some true)
 else (if (v11.2.2==0) then (zcv (z0i.mk [] [] [(z31.mk (ByteArray.mk #[112]) [] [(z03.mk 1 (ByteArray.mk #[120]) (ByteArray.mk #[]) a0 (z1k.mk 0 (z04.mk 0 0 (ByteArray.mk #[]) []) (z04.mk 0 0 (ByteArray.mk #[]) [])) [] [] [])])])>>=fun v13 =>
 zkf v11.1 v13>>=fun v14 =>
 if v14 then (zid v12.1 (z0i.mk [] [] [(z31.mk (ByteArray.mk #[112]) [] [(z03.mk 1 (ByteArray.mk #[120]) (ByteArray.mk #[]) a0 (z1k.mk 0 (z04.mk 0 0 (ByteArray.mk #[]) []) (z04.mk 0 0 (ByteArray.mk #[]) [])) [] [] [])])])>>=fun v15 =>
 some v15)
 else (some false))
 else (some false)))))))))
def zdm (r:Bool):List XV:=[xB r]
def zgp (r:Bool):z0p:=[]
noncomputable def zdn (r:Bool):Tg:=.r false Tryz.f4.results.toList 0 (zdm r) (zgp r)
end Go.Proofs.YtokjbpmjdcbogaaGreatDoor.Abs
