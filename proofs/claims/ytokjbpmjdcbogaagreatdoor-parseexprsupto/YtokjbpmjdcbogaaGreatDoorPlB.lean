/- What lexing is, over lists of bytes, and small facts on bytes and rounds; no program in sight. -/
import Derived.Test.YtokjbpmjdcbogaaGreatDoorHandA
import Derived.Test.YtokjbpmjdcbogaaGreatDoorAbsU
import Derived.Test.YtokjbpmjdcbogaaGreatDoorGwD
import Derived.Lib.ItoaLen
namespace Go.Proofs.YtokjbpmjdcbogaaGreatDoor.Abs
open Go Go.RowKit
set_option linter.unusedVariables false
set_option linter.unusedSimpArgs false
theorem zce {X O:Type} {body:X→Option (Sum X O)} {x y:X} (h:body x=some (.inl y)):iter body x=iter body y:=by rw [z8o,h];rfl
theorem z3i {X O:Type} {body:X→Option (Sum X O)} {x:X} {r:O} (h:body x=some (.inr r)):iter body x=some r:=by rw [z8o,h];rfl
theorem z6o {α:Type} {B:Nat} {L M:List α} (h:(L.length+M.length)*B≤140737488355328):app B L M=some (L++M):=by unfold app;rw [if_pos h]
theorem zgs {α:Type} {l:List α} {i:Nat} (h:i<l.length):idx l (i:Int)=some l[i]:=by
 unfold idx;rw [if_pos (by omega)];simp [h]
theorem z4b (s:ByteArray):s.data.toList.length=s.size:=by rw [Array.length_toList];rfl
theorem z0bw (s:ByteArray) (i:Nat) (h:i<s.data.toList.length):bt s (i:Int)=((s.data.toList[i]).toNat:Int):=by
 have h':i<s.size:=by rw [← z4b];exact h
 have:=z007 s (i:Int) (by simpa using h')
 rw [← this];simp;rfl
theorem ext_list (s:ByteArray) (a b:Nat):(s.extract a b).data.toList=(s.data.toList.take b).drop a:=by simp [List.drop_take]
theorem zwk (s:ByteArray) (a:Nat):(s.extract a s.size).data.toList=s.data.toList.drop a:=by
 rw [ext_list,List.take_of_length_le (by rw [z4b];omega)]
theorem zgn (s t:ByteArray):(s++t).data.toList=s.data.toList++t.data.toList:=by simp
theorem zme {s t:ByteArray} (h:s.data.toList=t.data.toList):s=t:=ByteArray.ext (Array.toList_inj.mp h)
abbrev Bs:=List UInt8
def isL (b:UInt8):Bool:=decide (97≤b.toNat)&&decide (b.toNat≤122)
def isD (b:UInt8):Bool:=decide (48≤b.toNat)&&decide (b.toNat≤57)
def isA (b:UInt8):Bool:=isL b || isD b
def isB (b:UInt8):Bool:=b==32 || b==10
def runL (l:Bs):Nat:=(l.takeWhile isA).length
def resv:List Bs:=[[99,104,97,110],[98,108,111,99,107],[100,114,111,112],[108,111,115,115,121],[102,114,111,109],[116,111],[114,117,108,101],[112,114,111,99],[118,97,114],[105,102],[101,108,115,101],[119,104,105,108,101],[115,101,110,100],[114,101,99,118],[97,115,115,101,114,116],[105,110,112,117,116]]
def dval (l:Bs):Nat:=l.foldl (fun a b=>10*a+(b.toNat - 48)) 0
def zsc (t:Bs):Bool:=decide (t.length≤10)&&!(decide (1<t.length)&&t.head?==some 48)&&t.all isD&&decide (dval t≤2147483647)
def ones:Bs:=[123,125,40,41,59,44,46,61,60,62,43,45,42,47,37]
def twos:Bs:=[61,33,60,62]
def zf1 (l:Bs):Nat :=
 if l[1]?=some 61∧l.head?∈twos.map some then 2 else if l.head?∈ones.map some then 1 else 0
structure W where
 kind:Int
 len:Nat
 num:Nat
def zfd (l:Bs):Except Int W :=
 match l with
 | []=>.error 2
 | b::_ =>
  if isL b then (if 12<runL l then .error 3 else .ok ⟨if l.take (runL l)∈resv then 4 else 1,runL l,0⟩)
  else if isD b then (if zsc (l.take (runL l)) then .ok ⟨2,runL l,dval (l.take (runL l))⟩ else .error 3)
  else if zf1 l=0 then .error 2 else .ok ⟨3,zf1 l,0⟩
theorem zcy (b:UInt8) (r:Bs):zfd (b::r) =
  if isL b then (if 12<runL (b::r) then .error 3 else .ok ⟨if (b::r).take (runL (b::r))∈resv then 4 else 1,runL (b::r),0⟩)
  else if isD b then (if zsc ((b::r).take (runL (b::r))) then .ok ⟨2,runL (b::r),dval ((b::r).take (runL (b::r)))⟩ else .error 3)
  else if zf1 (b::r)=0 then .error 2 else .ok ⟨3,zf1 (b::r),0⟩:=rfl
structure Tok where
 kind:Int
 text:Bs
 num:Nat
 at_:Nat
def lexS (l:Bs) (p:Nat):List Tok × Option (Nat × Int) :=
 match l with
 | []=>([],none)
 | b::r =>
  if isB b then lexS r (p+1)
  else match zfd (b::r) with
   | .error e=>([],some (p,e))
   | .ok w=>let z:=lexS (r.drop (w.len - 1)) (p+w.len);(⟨w.kind,(b::r).take w.len,w.num,p⟩::z.1,z.2)
termination_by l.length
decreasing_by all_goals (simp;try omega)
def told (size:Nat) (z:List Tok × Option (Nat × Int)):List Tok × Int × Int :=
 match z.2 with
 | some (p,e)=>([],(p:Int),e)
 | none=>if 2000<z.1.length then ([],(size:Int),4) else (z.1,0,0)
theorem zql (l:Bs):runL l≤l.length:=by
 unfold runL;have:=List.takeWhile_prefix (p:=isA) (l:=l);exact this.length_le
theorem zev (b:UInt8) (l:Bs):runL (b::l)=if isA b then runL l+1 else 0:=by
 unfold runL;rw [List.takeWhile_cons];split <;> simp
theorem zmh {b:UInt8} {l:Bs} (h:isA b=true):0<runL (b::l):=by rw [zev,if_pos h];omega
theorem zqm (l:Bs):zf1 l≤l.length:=by
 unfold zf1
 split
 ·rename_i h;have:=(List.getElem?_eq_some_iff.mp h.1).1;omega
 ·split
  ·rename_i h;cases l with
   | nil=>simp at h
   | cons a t=>simp
  ·omega
theorem zkn {l:Bs} {w:W} (h:zfd l=.ok w):0<w.len∧w.len≤l.length:=by
 cases l with
 | nil=>simp [zfd] at h
 | cons b r =>
  simp only [zfd] at h
  split at h
  ·rename_i hb;split at h
   ·cases h
   ·cases h;exact ⟨zmh (by simp [isA,hb]),zql _⟩
  ·split at h
   ·rename_i hb;split at h
    ·cases h;exact ⟨zmh (by simp [isA,hb]),zql _⟩
    ·cases h
   ·split at h
    ·cases h
    ·rename_i hz;cases h;exact ⟨by simp;omega,zqm _⟩
theorem zq9 (p:Nat):lexS [] p=([],none):=by rw [lexS]
theorem zlh {b:UInt8} (r:Bs) (p:Nat) (h:isB b=true):lexS (b::r) p=lexS r (p+1):=by rw [lexS,if_pos h]
theorem zpg {b:UInt8} {r:Bs} {p:Nat} {e:Int} (h:isB b=false) (hw:zfd (b::r)=.error e):lexS (b::r) p=([],some (p,e)):=by
 rw [lexS,if_neg (by simp [h]),hw]
theorem zue {b:UInt8} {r:Bs} {p:Nat} {w:W} (h:isB b=false) (hw:zfd (b::r)=.ok w) :
  lexS (b::r) p=(⟨w.kind,(b::r).take w.len,w.num,p⟩::(lexS ((b::r).drop w.len) (p+w.len)).1,(lexS ((b::r).drop w.len) (p+w.len)).2):=by
 rw [lexS,if_neg (by simp [h]),hw]
 have:=(zkn hw).1
 have e:(b::r).drop w.len=r.drop (w.len - 1):=by
  obtain ⟨n,hn⟩:∃ n,w.len=n+1:=⟨w.len - 1,by omega⟩
  rw [hn];simp
 rw [e]
def zhy (a:Nat) (b:UInt8):Nat:=10*a+(b.toNat - 48)
theorem zwl (l:Bs):∀ a,a*10 ^ l.length≤l.foldl zhy a:=by
 induction l with
 | nil=>intro a;simp
 | cons b r ih =>
  intro a
  have h:=ih (zhy a b)
  simp only [List.foldl_cons,List.length_cons]
  refine Nat.le_trans ?_ h
  rw [Nat.pow_succ,Nat.mul_comm (10 ^ r.length) 10,← Nat.mul_assoc]
  exact Nat.mul_le_mul_right _ (by unfold zhy;omega)
theorem z04g (l:Bs) (h:∀ b∈l,isD b=true):∀ a,l.foldl zhy a<(a+1)*10 ^ l.length:=by
 induction l with
 | nil=>intro a;simp
 | cons b r ih =>
  intro a
  have hr:=ih (fun x hx=>h x (List.mem_cons_of_mem _ hx)) (zhy a b)
  have hb:=h b List.mem_cons_self
  simp only [List.foldl_cons,List.length_cons]
  refine Nat.lt_of_lt_of_le hr ?_
  rw [Nat.pow_succ,Nat.mul_comm (10 ^ r.length) 10,← Nat.mul_assoc]
  refine Nat.mul_le_mul_right _ ?_
  unfold zhy
  simp only [isD,Bool.and_eq_true,decide_eq_true_eq] at hb
  omega
theorem zuu (l:Bs):dval l=l.foldl zhy 0:=rfl
theorem zcf (s:ByteArray) (i:Nat) (h:i<s.data.toList.length):bidx s (i:Int)=some ((s.data.toList[i]).toNat:Int):=by
 have h':i<s.size:=by rw [← z4b];exact h
 unfold bidx
 rw [if_pos (by omega),Int.toNat_natCast,getElem?_pos s i h']
 rfl
theorem zqn {s:ByteArray} {a b:Nat} (h1:a≤b) (h2:b≤s.size):ssub s (a:Int) (b:Int)=some (s.extract a b):=by
 unfold ssub;rw [if_pos ⟨by omega,by omega,by omega⟩];simp
theorem zqo (b:UInt8):ze5 (b.toNat:Int)=some (isL b):=by
 unfold ze5 isL
 by_cases h:97≤b.toNat
 ·rw [if_pos (by simp;omega)];simp only [h,decide_true,Bool.true_and];exact congrArg some (decide_eq_decide.mpr (by omega))
 ·rw [if_neg (by simp;omega)];simp only [h,decide_false,Bool.false_and]
theorem zuv (b:UInt8):zfk (b.toNat:Int)=some (isD b):=by
 unfold zfk isD
 by_cases h:48≤b.toNat
 ·rw [if_pos (by simp;omega)];simp only [h,decide_true,Bool.true_and];exact congrArg some (decide_eq_decide.mpr (by omega))
 ·rw [if_neg (by simp;omega)];simp only [h,decide_false,Bool.false_and]
theorem z0bx (p:ByteArray) (hp:p.size≤4194304):∀ (d i:Nat),p.size - i=d→i≤p.size →
  iter (zcs p) (i:Int)=some (.inr ((i+runL (p.data.toList.drop i):Nat):Int)):=by
 intro d
 induction d with
 | zero =>
  intro i hd hi
  have:i=p.size:=by omega
  refine z3i ?_
  unfold zcs
  rw [if_neg (by simp;omega),List.drop_of_length_le (by rw [z4b];omega)]
  simp [runL]
 | succ d ih =>
  intro i hd hi
  have hl:i<p.data.toList.length:=by rw [z4b];omega
  have e:=List.drop_eq_getElem_cons hl
  have hb:=zcf p i hl
  generalize p.data.toList[i]=b at e hb
  have hw:IntKind.i64.wrap ((i:Int)+1)=((i+1:Nat):Int):=by rw [w64 (by omega) (by omega)];omega
  have IH:=ih (i+1) (by omega) (by omega)
  have hs:(decide ((i:Int)<(p.size:Int)))=true:=by simp;omega
  rw [e,zev]
  by_cases hA:isA b=true
  ·rw [if_pos hA]
   rw [zce (y:=((i+1:Nat):Int)) ?_,IH]
   ·congr 2;omega
   ·unfold zcs
    rw [if_pos hs,hb]
    simp only [Option.bind_eq_bind,Option.bind_some,zqo,zuv,hw]
    unfold isA at hA
    cases hL:isL b
    ·rw [hL] at hA;simp only [Bool.false_or] at hA;simp [hA]
    ·simp
  ·rw [if_neg hA]
   refine z3i ?_
   unfold zcs
   rw [if_pos hs,hb]
   simp only [Option.bind_eq_bind,Option.bind_some,zqo,zuv]
   unfold isA at hA
   simp only [Bool.or_eq_true,not_or,Bool.not_eq_true] at hA
   simp [hA.1,hA.2]
theorem z0de (p:ByteArray) (hp:p.size≤4194304):zl7 p=some ((runL p.data.toList:Nat):Int):=by
 have:=z0bx p hp p.size 0 (by omega) (by omega)
 unfold zl7
 rw [show ((0:Int))=((0:Nat):Int) from rfl,this]
 simp
theorem zyh (s:ByteArray):zd9 s=some (decide (s.data.toList∈resv)):=by
 unfold zd9
 simp only [Go.ByteArray.toList_eq]
 generalize s.data.toList=l
 by_cases hm:l∈resv
 ·have hm2:=hm
  unfold resv at hm2
  simp only [List.mem_cons,List.not_mem_nil,or_false] at hm2
  rcases hm2 with rfl|rfl|rfl|rfl|rfl|rfl|rfl|rfl|rfl|rfl|rfl|rfl|rfl|rfl|rfl|rfl
  all_goals rfl
 ·have hm2:=hm
  unfold resv at hm2
  simp only [List.mem_cons,List.not_mem_nil,or_false,not_or] at hm2
  obtain ⟨h0,h1,h2,h3,h4,h5,h6,h7,h8,h9,h10,h11,h12,h13,h14,h15⟩:=hm2
  simp only [hm,decide_false,beq_iff_eq,h0,h1,h2,h3,h4,h5,h6,h7,h8,h9,h10,h11,h12,h13,h14,h15,if_false]
theorem z08w (s:ByteArray) (hp:s.size≤12):zfl s=some (⟨if s.data.toList∈resv then 4 else 1,s,0,0⟩,0):=by
 unfold zfl
 rw [if_neg (by simp;omega),zyh]
 by_cases hm:s.data.toList∈resv <;> simp [hm]
theorem z0by (l:Bs) (c:UInt8):(0≤Lib.indexByte l c)↔c∈l:=by
 induction l with
 | nil=>simp [Lib.indexByte]
 | cons b r ih =>
  simp only [Lib.indexByte]
  have hge:=Lib.indexByte_ge r c
  by_cases hb:(b==c)=true
  ·simp [(beq_iff_eq.mp hb).symm]
  ·have hb':¬ b=c:=by simpa using hb
   simp only [hb,Bool.false_eq_true,if_false]
   by_cases hr:(Lib.indexByte r c==-1)=true
   ·simp only [hr,if_true]
    have:¬ (0≤Lib.indexByte r c):=by have:=beq_iff_eq.mp hr;omega
    have:¬ c∈r:=fun h=>this (ih.mpr h)
    simp [this,Ne.symm hb']
   ·simp only [hr,Bool.false_eq_true,if_false]
    have:¬ Lib.indexByte r c=-1:=by simpa using hr
    have h2:c∈r:=ih.mp (by omega)
    simp [h2];omega
theorem z0df (b:UInt8):((b.toNat:Int)).toNat.toUInt8=b:=by simp
theorem z01g (l:Bs) (c:UInt8):∃ z,zts ⟨l.toArray⟩ (c.toNat:Int)=some z∧(decide (z≥0)=decide (c∈l)):=by
 refine ⟨_,rfl,?_⟩
 rw [z0df]
 exact decide_eq_decide.mpr (z0by l c)
theorem z0bz (p:ByteArray) (h0:0<p.size):zka p=some ((zf1 p.data.toList:Nat):Int):=by
 have hl0:0<p.data.toList.length:=by rw [z4b];omega
 have hb0:=zcf p 0 hl0
 have e0:p.data.toList.head?=some (p.data.toList[0]):=by rw [List.head?_eq_getElem?];exact List.getElem?_eq_getElem hl0
 generalize p.data.toList[0]=a at e0 hb0
 obtain ⟨z1,hz1,hd1⟩:=z01g ones a
 obtain ⟨z2,hz2,hd2⟩:=z01g twos a
 have ho:(p.data.toList.head?∈ones.map some)↔a∈ones:=by rw [e0];simp
 have ht:(p.data.toList.head?∈twos.map some)↔a∈twos:=by rw [e0];simp
 have hS:zf1 p.data.toList=if (p.data.toList[1]?=some 61∧a∈twos) then 2 else if a∈ones then 1 else 0:=by
  unfold zf1;simp only [ht,ho]
 rw [hS]
 unfold zka
 have hz1:zts (ByteArray.mk #[123,125,40,41,59,44,46,61,60,62,43,45,42,47,37]) (a.toNat:Int)=some z1:=hz1
 have hz2:zts (ByteArray.mk #[61,33,60,62]) (a.toNat:Int)=some z2:=hz2
 have hb0:bidx p 0=some (a.toNat:Int):=hb0
 simp only [hb0,Option.bind_eq_bind,Option.bind_some,hz1,hz2,hd1,hd2]
 by_cases h1:1<p.size
 ·have hl1:1<p.data.toList.length:=by rw [z4b];omega
  have hb1:=zcf p 1 hl1
  have e1:p.data.toList[1]?=some (p.data.toList[1]):=List.getElem?_eq_getElem hl1
  generalize p.data.toList[1]=c at e1 hb1
  have hb1:bidx p 1=some (c.toNat:Int):=hb1
  have hc61:((c.toNat:Int)==61)=decide (c=61):=by
   by_cases hc:c=61
   ·subst hc;rfl
   ·have:¬ ((c.toNat:Int)=61):=by intro h;apply hc;apply UInt8.toNat_inj.mp;have:(61:UInt8).toNat=61:=rfl;omega
    simp [hc,this]
  have hgt:(decide ((p.size:Int) > 1))=true:=by simp;omega
  rw [e1]
  simp only [hgt,if_true,hb1,Option.bind_some,hc61]
  by_cases hc:c=61 <;> by_cases hm:a∈twos <;> by_cases hn:a∈ones <;> simp [hc,hm,hn]
 ·have e1:p.data.toList[1]?=none:=List.getElem?_eq_none (by rw [z4b];omega)
  have hgt:(decide ((p.size:Int) > 1))=false:=by simp;omega
  rw [e1]
  simp only [hgt]
  by_cases hn:a∈ones <;> simp [hn]
theorem z04h (b:UInt8):digs.contains b=isD b:=by
 rw [Bool.eq_iff_iff]
 constructor
 ·intro h
  have h:b∈digs:=by simpa using h
  unfold digs at h
  simp only [List.mem_cons,List.not_mem_nil,or_false] at h
  rcases h with rfl|rfl|rfl|rfl|rfl|rfl|rfl|rfl|rfl|rfl <;> rfl
 ·intro h
  simp only [isD,Bool.and_eq_true,decide_eq_true_eq] at h
  have h2:b.toNat=48∨b.toNat=49∨b.toNat=50∨b.toNat=51∨b.toNat=52∨b.toNat=53∨b.toNat=54∨b.toNat=55∨b.toNat=56∨b.toNat=57:=by omega
  have e:∀ n,b.toNat=n→b=UInt8.ofNat n:=fun n h=>by rw [← h];simp
  rcases h2 with h|h|h|h|h|h|h|h|h|h <;> (rw [e _ h];rfl)
theorem z01h {p:UInt8→Bool} {l:Bs}:l.dropWhile p=[]↔∀ x∈l,p x=true:=by
 induction l with
 | nil=>simp
 | cons b r ih =>
  rw [List.dropWhile_cons]
  by_cases h:p b=true
  ·rw [if_pos h,ih];simp [h]
  ·rw [if_neg h];simp [h]
theorem zwm (l:Bs):(Lib.trimS l digs=[])↔(l.all isD=true):=by
 have hp:(fun b=>digs.contains b)=isD:=funext z04h
 unfold Lib.trimS Lib.trimLeftS Lib.trimRightS
 rw [show (digs.contains ·)=isD from hp]
 constructor
 ·intro h
  rw [z01h] at h
  have h2:List.dropWhile isD l.reverse=[]:=by
   cases hm:List.dropWhile isD l.reverse with
   | nil=>rfl
   | cons x m =>
    have h3:=List.head_dropWhile_not isD (l:=l.reverse) (by rw [hm];simp)
    have h4:=h x (by rw [List.mem_reverse,hm];simp)
    simp only [hm,List.head_cons] at h3
    rw [h4] at h3;cases h3
  rw [z01h] at h2
  exact List.all_eq_true.mpr fun x hx=>h2 x (by simpa using hx)
 ·intro h
  have h1:List.dropWhile isD l.reverse=[]:=z01h.mpr fun x hx=>List.all_eq_true.mp h x (by simpa using hx)
  rw [h1];rfl
theorem z0c0 (l:Bs) (h:∀ b∈l,isD b=true):∀ acc,acc≤4294967295 →
  Lib.parseUintM 4294967295 acc l=if l.foldl zhy acc≤4294967295 then .ok (l.foldl zhy acc) else .range:=by
 induction l with
 | nil=>intro acc ha;simp [Lib.parseUintM,ha]
 | cons c r ih =>
  intro acc ha
  have hc:=h c List.mem_cons_self
  simp only [isD,Bool.and_eq_true,decide_eq_true_eq] at hc
  have hr:=ih (fun x hx=>h x (List.mem_cons_of_mem _ hx))
  rw [List.foldl_cons]
  simp only [Lib.parseUintM]
  rw [if_pos hc,if_neg (by omega)]
  have es:acc*10+(c.toNat - 48)=zhy acc c:=by unfold zhy;omega
  rw [es]
  by_cases hM:4294967295<zhy acc c
  ·rw [if_pos hM,if_neg]
   have:=zwl r (zhy acc c)
   have hp:1≤10 ^ r.length:=Nat.one_le_pow _ _ (by omega)
   have:=Nat.mul_le_mul_left (zhy acc c) hp
   omega
  ·rw [if_neg hM,hr _ (by omega)]
theorem z01i (c:UInt8) (r:Bs) (h:∀ b∈c::r,isD b=true) :
  Lib.parseIntB 32 (c::r)=if dval (c::r)≤2147483647 then .ok ((dval (c::r):Nat):Int) else .range:=by
 have hc:=h c List.mem_cons_self
 simp only [isD,Bool.and_eq_true,decide_eq_true_eq] at hc
 have hp:=z0c0 (c::r) h 0 (by omega)
 simp only [Lib.parseIntB]
 rw [if_neg (by omega)]
 unfold Lib.parseUintB
 rw [if_neg (by simp)]
 rw [show (2 ^ 32 - 1:Nat)=4294967295 from rfl,hp,← zuu]
 generalize dval (c::r)=v
 have h45:¬ (c.toNat=45):=by omega
 by_cases h1:v≤4294967295
 ·rw [if_pos h1]
  by_cases h2:v≤2147483647
  ·rw [if_pos h2];dsimp only;rw [if_neg (by rintro ⟨_,h⟩;omega),if_neg (by rintro ⟨h,_⟩;exact h45 h),if_neg h45]
  ·rw [if_neg h2];dsimp only;rw [if_pos ⟨h45,by omega⟩]
 ·rw [if_neg h1,if_neg (by omega)]
theorem zw4 (c:UInt8) (r:Bs) (hc:isD c=true) (h48:c≠48) (hv:dval (c::r)≤2147483647):(c::r).length≤10:=by
 simp only [isD,Bool.and_eq_true,decide_eq_true_eq] at hc
 have h1:c.toNat≠48:=fun h=>h48 (UInt8.toNat_inj.mp (by rw [h];rfl))
 rw [zuu,List.foldl_cons] at hv
 have hg:=zwl r (zhy 0 c)
 have hs:1≤zhy 0 c:=by unfold zhy;omega
 have h2:10 ^ r.length≤2147483647:=by
  have:=Nat.mul_le_mul_right (10 ^ r.length) hs
  omega
 have h3:r.length<10:=by
  refine Decidable.byContradiction fun hn=>?_
  have:10 ^ 10≤10 ^ r.length:=Nat.pow_le_pow_right (by omega) (by omega)
  have:(10:Nat) ^ 10=10000000000:=by decide
  omega
 simp;omega
theorem z04i (s:ByteArray) (c:UInt8) (r:Bs) (e:s.data.toList=c::r) (hc:isD c=true) (hs:s.size≤4194304) :
  zn9 s=if zsc (c::r) then some (((dval (c::r):Nat):Int),0) else some (0,3):=by
 have hsz:s.size=(c::r).length:=by rw [← e,z4b]
 have hb:=z0bw s 0 (by rw [e];simp)
 have hb:bt s 0=(c.toNat:Int):=by simpa [e] using hb
 have h48:(bt s 0=48)↔c=48:=by
  rw [hb];constructor
  ·intro h;exact UInt8.toNat_inj.mp (by have:(48:UInt8).toNat=48:=rfl;omega)
  ·rintro rfl;rfl
 unfold zn9 zsc
 rw [if_pos (by omega),e,hsz]
 have hh:((c::r).head?==some 48)=decide (c=48):=by
  by_cases h:c=48
  ·subst h;rfl
  ·simp [h]
 rw [hh]
 by_cases hall:(c::r).all isD=true
 ·have ht:=(zwm (c::r)).mpr hall
  by_cases h1:1<(c::r).length∧c=48
  ·rw [if_pos (.inr ⟨h1.1,h48.mpr h1.2⟩)]
   rw [if_neg]
   simp only [Bool.and_eq_true,decide_eq_true_eq,Bool.not_eq_true',Bool.and_eq_false_iff,decide_eq_false_iff_not]
   rintro ⟨⟨⟨_,h|h⟩,_⟩,_⟩
   ·exact h h1.1
   ·exact h h1.2
  ·rw [if_neg (by rintro (h|⟨h,h'⟩);exact h ht;exact h1 ⟨h,h48.mp h'⟩),z01i c r (fun b hb=>List.all_eq_true.mp hall b hb)]
   by_cases hv:dval (c::r)≤2147483647
   ·have hl:(c::r).length≤10:=by
     by_cases hz:c=48
     ·have:¬ 1<(c::r).length:=fun h=>h1 ⟨h,hz⟩
      omega
     ·exact zw4 c r hc hz hv
    rw [if_pos hv,if_pos]
    simp only [Bool.and_eq_true,hall,decide_eq_true_eq,hv,hl,and_true,true_and,Bool.not_eq_true',Bool.and_eq_false_iff,decide_eq_false_iff_not]
    by_cases hz:c=48
    ·left;exact fun h=>h1 ⟨h,hz⟩
    ·right;exact hz
   ·rw [if_neg hv,if_neg]
    simp only [Bool.and_eq_true,decide_eq_true_eq,hv,and_false,not_false_eq_true]
 ·rw [if_pos (.inl fun h=>hall ((zwm _).mp h)),if_neg]
  intro h
  simp only [Bool.and_eq_true] at h
  exact hall h.1.2
theorem z0c1 (p:ByteArray) (b:UInt8) (r:Bs) (e:p.data.toList=b::r) (hp:p.size≤4194304) :
  match zfd (b::r) with
  | .ok w=>zgg p=some (⟨w.kind,p.extract 0 w.len,(w.num:Int),0⟩,0)
  | .error c=>∃ x,c≠0∧zgg p=some (x,c):=by
 have hsz:p.size=(b::r).length:=by rw [← e,z4b]
 have h0:0<p.size:=by rw [hsz];simp
 have hb:bidx p 0=some (b.toNat:Int):=by
  have:=zcf p 0 (by rw [e];simp)
  simpa [e] using this
 have hrun:=z0de p hp
 rw [e] at hrun
 have hrl:=zql (b::r)
 have hxl:(p.extract 0 (runL (b::r))).data.toList=(b::r).take (runL (b::r)):=by rw [ext_list,e];simp
 have hxs:(p.extract 0 (runL (b::r))).size=runL (b::r):=by rw [← z4b,hxl,List.length_take];omega
 have hcut:∀ n:Nat,n≤p.size→ssub p 0 (n:Int)=some (p.extract 0 n):=fun n hn=>zqn (Nat.zero_le _) hn
 unfold zgg
 simp only [hb,Option.bind_eq_bind,Option.bind_some,zqo,zuv]
 rw [zcy]
 by_cases hL:isL b=true
 ·rw [if_pos hL,if_pos hL,hrun]
  simp only [Option.bind_some,hcut _ (by omega:runL (b::r)≤p.size)]
  by_cases h12:12<runL (b::r)
  ·rw [if_pos h12]
   refine ⟨⟨0,ByteArray.mk #[],0,0⟩,by decide,?_⟩
   unfold zfl
   rw [if_pos (by simp [hxs];omega)];rfl
  ·rw [if_neg h12,z08w _ (by omega),hxl];rfl
 ·rw [if_neg hL,if_neg hL]
  by_cases hD:isD b=true
  ·have hxe:(p.extract 0 (runL (b::r))).data.toList=b::r.take (runL (b::r) - 1):=by
    rw [hxl]
    have:=zmh (b:=b) (l:=r) (by simp [isA,hD])
    obtain ⟨n,hn⟩:∃ n,runL (b::r)=n+1:=⟨runL (b::r) - 1,by omega⟩
    rw [hn];simp
   have hnum:=z04i (p.extract 0 (runL (b::r))) b _ hxe hD (by omega)
   rw [← hxe,hxl] at hnum
   rw [if_pos hD,if_pos hD,hrun]
   simp only [Option.bind_some,hcut _ (by omega:runL (b::r)≤p.size),hnum]
   by_cases ho:zsc ((b::r).take (runL (b::r)))=true
   ·rw [if_pos ho,if_pos ho];rfl
   ·rw [if_neg ho,if_neg ho];exact ⟨_,by decide,rfl⟩
  ·rw [if_neg hD,if_neg hD,z0bz p h0,e]
   have hsl:=zqm (b::r)
   simp only [Option.bind_some]
   by_cases hz:zf1 (b::r)=0
   ·rw [if_pos hz,if_pos (by simp [hz])]
    exact ⟨_,by decide,rfl⟩
   ·rw [if_neg hz,if_neg (by simpa using hz),hcut _ (by omega)];rfl
def tokT (t:Tok):z0g:=⟨t.kind,⟨t.text.toArray⟩,(t.num:Int),(t.at_:Int)⟩
def finT (size:Nat) (z:List Tok × Option (Nat × Int)):List z0g × Int × Int :=
 ((told size z).1.map tokT,(told size z).2.1,(told size z).2.2)
theorem z04j (size:Nat) (acc:List Tok) (p:Nat) (e:Int):finT size (acc,some (p,e))=([],(p:Int),e):=rfl
theorem z0c2 (s:ByteArray) (hs:s.size≤4194304):∀ (d i:Nat) (acc:List Tok),s.size - i=d→i≤s.size→acc.length≤i →
  (iter (zct s) ((i:Int),acc.map tokT)>>=Sum.elim (fun r=>some r) (fun j1=>if (decide ((j1.length:Int) > 2000)) then (some ([],(s.size:Int),4)) else (some (j1,0,0))))=some (finT s.size (acc++(lexS (s.data.toList.drop i) i).1,(lexS (s.data.toList.drop i) i).2)):=by
 intro d
 induction d using Nat.strongRecOn with
 | _ d ih =>
 intro i acc hd hi ha
 by_cases hlt:i<s.size
 ·have hl:i<s.data.toList.length:=by rw [z4b];omega
  have e:=List.drop_eq_getElem_cons hl
  have hb:=zcf s i hl
  generalize s.data.toList[i]=b at e hb
  have hw:IntKind.i64.wrap ((i:Int)+1)=((i+1:Nat):Int):=by rw [w64 (by omega) (by omega)];omega
  have hs1:(decide ((i:Int)<(s.size:Int)))=true:=by simp;omega
  have h32:((b.toNat:Int)==32)=(b==32):=by
   rw [Bool.eq_iff_iff,beq_iff_eq,beq_iff_eq]
   constructor
   ·intro h;exact UInt8.toNat_inj.mp (by have:(32:UInt8).toNat=32:=rfl;omega)
   ·rintro rfl;rfl
  have h10:((b.toNat:Int)==10)=(b==10):=by
   rw [Bool.eq_iff_iff,beq_iff_eq,beq_iff_eq]
   constructor
   ·intro h;exact UInt8.toNat_inj.mp (by have:(10:UInt8).toNat=10:=rfl;omega)
   ·rintro rfl;rfl
  have hJ:(if (b==32)=true then some true else some (b==10))=some (isB b):=by
   unfold isB;cases (b==32) <;> simp
  have hbody:zct s ((i:Int),acc.map tokT)=(if isB b then some (.inl (((i+1:Nat):Int),acc.map tokT)) else
    (ssub s (i:Int) (s.size:Int)>>=fun v3=>zgg v3>>=fun v4=>if (v4.2 != 0) then (some (.inr (.inl ([],(i:Int),v4.2))))
     else (app 40 (acc.map tokT) [(z0g.mk v4.1.Kind v4.1.Text v4.1.Num (i:Int))]>>=fun v5=>some (.inl ((IntKind.i64.wrap ((i:Int)+(v4.1.Text.size:Int))),v5))))):=by
   unfold zct
   rw [if_pos hs1]
   simp only [hb,Option.bind_eq_bind,Option.bind_some,h32,h10,hw,hJ]
  rw [e]
  by_cases hB:isB b=true
  ·rw [zlh _ _ hB,zce (y:=(((i+1:Nat):Int),acc.map tokT)) (by rw [hbody,if_pos hB])]
   exact ih (s.size - (i+1)) (by omega) (i+1) acc rfl (by omega) (by omega)
  ·have hB':isB b=false:=by simpa using hB
   rw [if_neg hB,zqn (by omega) (Nat.le_refl _)] at hbody
   simp only [Option.bind_eq_bind,Option.bind_some] at hbody
   have hpl:(s.extract i s.size).data.toList=b::s.data.toList.drop (i+1):=by rw [zwk,e]
   have hps:(s.extract i s.size).size≤4194304:=by rw [ByteArray.size_extract];omega
   have hwd:=z0c1 (s.extract i s.size) b _ hpl hps
   cases hw1:zfd (b::s.data.toList.drop (i+1)) with
   | error c =>
    rw [hw1] at hwd
    obtain ⟨x,hc,hE⟩:=hwd
    rw [hE] at hbody
    simp only [Option.bind_some] at hbody
    rw [if_pos (by simpa using hc)] at hbody
    rw [z3i hbody,zpg hB' hw1,z04j]
    rfl
   | ok w =>
    rw [hw1] at hwd
    have hlen:=zkn hw1
    have hlen2:w.len≤s.size - i:=by
     have:=hlen.2
     rw [← hpl,zwk,List.length_drop,z4b] at this
     exact this
    have hx:(s.extract i s.size).extract 0 w.len=(⟨((b::s.data.toList.drop (i+1)).take w.len).toArray⟩:ByteArray):=by
     refine zme ?_
     rw [ext_list,hpl];simp
    have hxs:((⟨((b::s.data.toList.drop (i+1)).take w.len).toArray⟩:ByteArray)).size=w.len:=by
     rw [← z4b];simp only [List.length_take]
     omega
    have hd2:(b::s.data.toList.drop (i+1)).drop w.len=s.data.toList.drop (i+w.len):=by
     rw [← e,List.drop_drop]
    rw [hwd] at hbody
    simp only [Option.bind_some] at hbody
    rw [if_neg (by simp),z6o (by simp;omega)] at hbody
    simp only [Option.bind_some] at hbody
    rw [hx,hxs,w64 (by omega) (by omega)] at hbody
    have IH:=ih (s.size - (i+w.len)) (by omega) (i+w.len) (acc++[(⟨w.kind,(b::s.data.toList.drop (i+1)).take w.len,w.num,i⟩:Tok)]) rfl (by omega) (by simp;omega)
    rw [zce hbody,zue hB' hw1,hd2]
    simp only [List.map_append,List.map_cons,List.map_nil,List.append_assoc,List.cons_append,List.nil_append] at IH
    rw [← show (((i+w.len:Nat):Int))=(i:Int)+(w.len:Int) by push_cast;rfl]
    exact IH
 ·have hie:i=s.size:=by omega
  have hnil:s.data.toList.drop i=[]:=List.drop_of_length_le (by rw [z4b];omega)
  rw [hnil,zq9]
  rw [z3i (r:=.inr (acc.map tokT)) (by unfold zct;rw [if_neg (by simp;omega)])]
  simp only [List.append_nil,finT,told,List.length_map,Option.bind_eq_bind,Option.bind_some,Sum.elim_inr]
  by_cases h2:2000<acc.length
  ·rw [if_pos (by simp;omega),if_pos h2];rfl
  ·rw [if_neg (by simp;omega),if_neg h2]
theorem z0dd (s:ByteArray) (hs:s.size≤4194304):zjf s=some (finT s.size (lexS s.data.toList 0)):=by
 have:=z0c2 s hs s.size 0 [] (by omega) (by omega) (by simp)
 unfold zjf
 simpa using this
end Go.Proofs.YtokjbpmjdcbogaaGreatDoor.Abs
namespace Go.Proofs.YtokjbpmjdcbogaaGreatDoor.Abs.Wri
open Go Go.RowKit
set_option linter.unusedVariables false
set_option linter.unusedSimpArgs false
def Sn {α:Type} (n h:Nat) (x:Option α) (r:α):Prop:=x=some r∨(x=none∧n<h)
theorem Sn.pure {α:Type} {n h:Nat} {x:Option α} {r:α} (e:x=some r):Sn n h x r:=.inl e
theorem Sn.mono {α:Type} {n h h':Nat} {x:Option α} {r:α} (s:Sn n h x r) (hh:h≤h'):Sn n h' x r:=s.imp id fun ⟨a,b⟩=>⟨a,by omega⟩
theorem Sn.bind {α β:Type} {n h:Nat} {x:Option α} {f:α→Option β} {r:α} {t:β} (s:Sn n h x r) (k:Sn n h (f r) t):Sn n h (x>>=f) t:=by
 rcases s with rfl|⟨rfl,hn⟩
 ·exact k
 ·exact .inr ⟨rfl,hn⟩
theorem Sn.up {α:Type} {n h:Nat} {x:Option α} {r:α} (s:Sn n h x r):Sn (n+1) (h+1) x r:=s.imp id fun ⟨a,b⟩=>⟨a,by omega⟩
theorem Sn.unf {α:Type} {f:Nat→Option α} {r:α} {h:Nat} (s:∀ n,Sn n h (f n) r):unf f=some r:=by
 refine z054 h ?_ fun m t hm=>?_
 ·rcases s h with e|⟨_,e⟩
  ·exact e
  ·omega
 ·rcases s m with e|⟨e,_⟩
  ·rw [hm] at e;exact Option.some.inj e
  ·rw [hm] at e;cases e
structure Wr where
 ws:List ByteArray
 bad:Bool
 dp:Bool
def Wr.app (x y:Wr):Wr:=⟨x.ws++y.ws,x.bad || y.bad,x.dp || y.dp⟩
instance:Append Wr:=⟨Wr.app⟩
theorem Wr.app_def (x y:Wr):x++y=⟨x.ws++y.ws,x.bad || y.bad,x.dp || y.dp⟩:=rfl
@[simp] theorem Wr.ws_app (x y:Wr):(x++y).ws=x.ws++y.ws:=rfl
@[simp] theorem Wr.bad_app (x y:Wr):(x++y).bad=(x.bad || y.bad):=rfl
@[simp] theorem Wr.dp_app (x y:Wr):(x++y).dp=(x.dp || y.dp):=rfl
def Wr.nil:Wr:=⟨[],false,false⟩
def wW (l:List ByteArray):Wr:=⟨l,false,false⟩
def wM (ok:Bool):Wr:=⟨[],!ok,false⟩
def wD (q:Int):Wr:=⟨[],false,decide (q > 24)⟩
def z3s (s:ByteArray):Bool :=
 let v:=finT s.size (lexS s.data.toList 0)
 v.2.2==0&&(v.1.length:Int)==1&&(match v.1 with|t::_=>t.Kind==1&&t.Text.toList==s.toList|[]=>false)
def zb9 (n:Int):Bool:=decide (n≥0)&&decide (n≤2147483647)
def wN (s:ByteArray):Wr:=⟨[s],!z3s s,false⟩
def wI (n:Int):Wr:=⟨[zfy n],!zb9 n,false⟩
mutual
def szE:z06→Nat
 | ⟨_,_,_,l⟩=>1+szEs l
def szEs:List z06→Nat
 | []=>0
 | e::r=>szE e+szEs r
end
def sumK (k:Int):Bool:=k==4 || k==5
def z88 (k:Int):Bool:=decide (k≥4)&&decide (k≤8)
def znn (k:Int):ByteArray:=match k with
 | 4=>ByteArray.mk #[43]|5=>ByteArray.mk #[45]|6=>ByteArray.mk #[42]|7=>ByteArray.mk #[47]|_=>ByteArray.mk #[37]
theorem z04k {k:Int} (h:z88 k=true):idx [(ByteArray.mk #[43]),(ByteArray.mk #[45]),(ByteArray.mk #[42]),(ByteArray.mk #[47]),(ByteArray.mk #[37])] (IntKind.i64.wrap (k - 4))=some (znn k):=by
 unfold z88 at h
 simp only [Bool.and_eq_true,decide_eq_true_eq] at h
 have:k=4∨k=5∨k=6∨k=7∨k=8:=by omega
 rcases this with rfl|rfl|rfl|rfl|rfl <;> rfl
def zdo (e:z06):Wr:=wM ((e.Kids.length:Int)==0)++(if e.Kind==1 then wI e.Num else wM (e.Kind==2)++wN e.Name)
def inP (must:Bool) (f:Int→Wr) (p:Int):Wr:=if must then wW [(ByteArray.mk #[40])]++(wD (p+1)++(f (p+1)++wW [(ByteArray.mk #[41])])) else f p
def sE (e:z06) (p:Int):Wr :=
 match e with
 | ⟨k,n,s,[x]⟩=>if k==3 then wW [(ByteArray.mk #[45])]++(wD (p+1)++inP (z88 x.Kind) (sE x) (p+1)) else zdo ⟨k,n,s,[x]⟩
 | ⟨k,n,s,[l,r]⟩=>if z88 k then inP (!sumK k&&sumK l.Kind) (sE l) p++(wW [znn k]++inP (sumK r.Kind || (!sumK k&&z88 r.Kind)) (sE r) p) else zdo ⟨k,n,s,[l,r]⟩
 | ⟨k,n,s,l⟩=>zdo ⟨k,n,s,l⟩
theorem zuw (m:Bool) (f:Int→Wr) (p:Int) (c:Nat) (h:∀ q,(f q).ws.length≤c):(inP m f p).ws.length≤c+2:=by
 unfold inP
 split
 ·have:=h (p+1);simp [wW,wD];omega
 ·have:=h p;omega
theorem zks (e:z06):(zdo e).ws.length≤1:=by
 unfold zdo
 split <;> simp [wM,wI,wN]
theorem zny:∀ (e:z06) (p:Int),(sE e p).ws.length≤5*szE e
 | ⟨k,n,s,[]⟩,p=>by
  have:=zks ⟨k,n,s,[]⟩
  simp only [sE,szE,szEs];omega
 | ⟨k,n,s,[x]⟩,p=>by
  have:=zks ⟨k,n,s,[x]⟩
  simp only [sE,szE,szEs]
  split
  ·have:=zuw (z88 x.Kind) (sE x) (p+1) (5*szE x) (zny x)
   simp [wW,wD];omega
  ·omega
 | ⟨k,n,s,[l,r]⟩,p=>by
  have:=zks ⟨k,n,s,[l,r]⟩
  simp only [sE,szE,szEs]
  split
  ·have:=zuw (!sumK k&&sumK l.Kind) (sE l) p (5*szE l) (zny l)
   have:=zuw (sumK r.Kind || (!sumK k&&z88 r.Kind)) (sE r) p (5*szE r) (zny r)
   simp [wW];omega
  ·omega
 | ⟨k,n,s,a::b::c::l⟩,p=>by
  have:=zks ⟨k,n,s,a::b::c::l⟩
  simp only [sE,szE,szEs];omega
def in64 (n:Int):Prop:=-9223372036854775808≤n∧n≤9223372036854775807
mutual
def okE:z06→Prop
 | ⟨_,n,s,l⟩=>in64 n∧s.size≤4194304∧okEs l
def okEs:List z06→Prop
 | []=>True
 | e::r=>okE e∧okEs r
end
def szC (c:z3t):Nat:=1+szE c.L+szE c.R
def okC (c:z3t):Prop:=okE c.L∧okE c.R
def opOk (k:Int):Bool:=decide (k≥1)&&decide (k≤6)
def opW (k:Int):ByteArray:=match k with
 | 1=>ByteArray.mk #[61,61]|2=>ByteArray.mk #[33,61]|3=>ByteArray.mk #[60]|4=>ByteArray.mk #[60,61]|5=>ByteArray.mk #[62]|_=>ByteArray.mk #[62,61]
theorem z0c3 {k:Int} (h:opOk k=true):idx [(ByteArray.mk #[61,61]),(ByteArray.mk #[33,61]),(ByteArray.mk #[60]),(ByteArray.mk #[60,61]),(ByteArray.mk #[62]),(ByteArray.mk #[62,61])] (IntKind.i64.wrap (k - 1))=some (opW k):=by
 unfold opOk at h
 simp only [Bool.and_eq_true,decide_eq_true_eq] at h
 have:k=1∨k=2∨k=3∨k=4∨k=5∨k=6:=by omega
 rcases this with rfl|rfl|rfl|rfl|rfl|rfl <;> rfl
def sC (c:z3t) (p:Int):Wr:=wW [(ByteArray.mk #[40])]++(sE c.L p++((if opOk c.Op then wW [opW c.Op] else wM false)++(sE c.R p++wW [(ByteArray.mk #[41])])))
theorem z05s (c:z3t) (p:Int):(sC c p).ws.length≤5*szC c:=by
 have h1:=zny c.L p
 have h2:=zny c.R p
 unfold sC szC
 split <;> simp [wW,wM] <;> omega
mutual
def szS:z05→Nat
 | .mk _ _ _ e c b l a=>4+szE e+szC c+szL b+szL l+szA a
def szL:List z05→Nat
 | []=>1
 | s::r=>szS s+szL r
def szA:List z0y→Nat
 | []=>1
 | .mk _ _ b::r=>2+szL b+szA r
end
mutual
def okS:z05→Prop
 | .mk _ n t e c b l a=>n.size≤4194304∧t.size≤4194304∧okE e∧okC c∧okL b∧okL l∧okA a
def okL:List z05→Prop
 | []=>True
 | s::r=>okS s∧okL r
def okA:List z0y→Prop
 | []=>True
 | .mk t v b::r=>t.size≤4194304∧v.size≤4194304∧okL b∧okA r
end
def inB (f:Int→Wr) (b:Int):Wr:=wW [(ByteArray.mk #[123])]++(wD (b+1)++(f (b+1)++wW [(ByteArray.mk #[125])]))
mutual
def sS:z05→Int→Int→Wr
 | .mk k n t e c bo el ar,b,p =>
  if k==1 then wN n++(wW [(ByteArray.mk #[61])]++(sE e p++wW [(ByteArray.mk #[59])]))
  else if k==2 then wW [(ByteArray.mk #[105,102])]++(sC c p++(inB (fun q=>sL bo q p) b++(if el.isEmpty then Wr.nil else wW [(ByteArray.mk #[101,108,115,101])]++inB (fun q=>sL el q p) b)))
  else if k==3 then wW [(ByteArray.mk #[119,104,105,108,101])]++(sC c p++inB (fun q=>sL bo q p) b)
  else if k==4 then wW [(ByteArray.mk #[115,101,110,100])]++(wN n++(wW [(ByteArray.mk #[46])]++(wN t++(wW [(ByteArray.mk #[40])]++(sE e p++wW [(ByteArray.mk #[41]),(ByteArray.mk #[59])])))))
  else if k==5 then wW [(ByteArray.mk #[114,101,99,118])]++(wN n++(wM (!ar.isEmpty)++(wW [(ByteArray.mk #[123])]++(sA ar b p++wW [(ByteArray.mk #[125])]))))
  else if k==6 then wW [(ByteArray.mk #[97,115,115,101,114,116])]++(sC c p++wW [(ByteArray.mk #[59])])
  else if k==7 then wW [(ByteArray.mk #[105,110,112,117,116])]++(wN n++wW [(ByteArray.mk #[59])])
  else wM false
def sL:List z05→Int→Int→Wr
 | [],_,_=>Wr.nil
 | s::r,b,p=>sS s b p++sL r b p
def sA:List z0y→Int→Int→Wr
 | [],_,_=>Wr.nil
 | .mk t v bo::r,b,p=>wN t++(wW [(ByteArray.mk #[40])]++(wN v++(wW [(ByteArray.mk #[41])]++(inB (fun q=>sL bo q p) b++sA r b p))))
end
theorem zux (f:Int→Wr) (b:Int) (c:Nat) (h:∀ q,(f q).ws.length≤c):(inB f b).ws.length≤c+2:=by
 have:=h (b+1)
 unfold inB;simp [wW,wD];omega
mutual
theorem z05t:∀ (s:z05) (b p:Int),(sS s b p).ws.length≤5*szS s
 | .mk k n t e c bo el ar,b,p=>by
  have h1:=zny e p
  have h2:=z05s c p
  have h3:=zux (fun q=>sL bo q p) b _ fun q=>zph bo q p
  have h4:=zux (fun q=>sL el q p) b _ fun q=>zph el q p
  have h5:=z01j ar b p
  have h6:=z6k bo
  have h7:=z6k el
  have h8:=zju ar
  simp only [sS,szS]
  split
  ·simp [wN,wW];omega
  ·split
   ·split <;> simp [wN,wW,Wr.nil] <;> omega
   ·split
    ·simp [wN,wW];omega
    ·split
     ·simp [wN,wW];omega
     ·split
      ·simp [wN,wW,wM];omega
      ·split
       ·simp [wW];omega
       ·split
        ·simp [wN,wW];omega
        ·simp [wM]
theorem zph:∀ (l:List z05) (b p:Int),(sL l b p).ws.length≤5*szL l
 | [],b,p=>by simp [sL,Wr.nil]
 | s::r,b,p=>by
  have:=z05t s b p
  have:=zph r b p
  simp only [sL,szL,Wr.ws_app,List.length_append];omega
theorem z01j:∀ (l:List z0y) (b p:Int),(sA l b p).ws.length≤5*szA l
 | [],b,p=>by simp [sA,Wr.nil]
 | .mk t v bo::r,b,p=>by
  have:=zux (fun q=>sL bo q p) b _ fun q=>zph bo q p
  have:=z01j r b p
  simp only [sA,szA];simp [wN,wW];omega
theorem z6k:∀ l:List z05,1≤szL l
 | []=>by simp [szL]
 | s::r=>by have:=z6k r;simp only [szL];omega
theorem zju:∀ l:List z0y,1≤szA l
 | []=>by simp [szA]
 | .mk t v bo::r=>by simp only [szA];omega
end
theorem zuy:∀ l:List z05,l.length≤szL l
 | []=>by simp
 | s::r=>by
  have:=zuy r
  have:4≤szS s:=by cases s;simp only [szS];omega
  simp only [szL,List.length_cons];omega
theorem zuf:∀ l:List z0y,l.length≤szA l
 | []=>by simp
 | .mk t v b::r=>by
  have:=zuf r
  simp only [szA,List.length_cons];omega
theorem z01k:∀ {l:List z05},okL l→∀ s∈l,okS s∧szS s+1≤szL l
 | [],_,s,hs=>by cases hs
 | x::r,ho,s,hs=>by
  simp only [okL] at ho
  have:=z6k r
  rcases List.mem_cons.1 hs with rfl|hs
  ·exact ⟨ho.1,by simp only [szL];omega⟩
  ·have:=z01k ho.2 s hs
   exact ⟨this.1,by simp only [szL];omega⟩
def zbb {β:Type} (g:Nat→β→Wr):Nat→List β→Wr
 | _,[]=>Wr.nil
 | i,x::r=>g i x++zbb g (i+1) r
def sumN {β:Type} (c:β→Nat):List β→Nat
 | []=>0
 | x::r=>c x+sumN c r
theorem zcg {β:Type} {g:Nat→β→Wr} {c:β→Nat}:∀ {l:List β} {i:Nat},(∀ i,∀ x∈l,(g i x).ws.length≤c x)→(zbb g i l).ws.length≤sumN c l
 | [],i,h=>by simp [zbb,Wr.nil]
 | x::r,i,h=>by
  have h1:=h i x List.mem_cons_self
  have h2:=zcg (l:=r) (i:=i+1) fun i y hy=>h i y (List.mem_cons_of_mem _ hy)
  simp only [zbb,sumN,Wr.ws_app,List.length_append];omega
abbrev TP:=Bool × Bool × Int × Int × List ByteArray
def wVar (_:Nat) (v:ByteArray):Wr:=wW [(ByteArray.mk #[118,97,114])]++(wN v++wW [(ByteArray.mk #[59])])
def sP (p:z3h):Wr:=wW [(ByteArray.mk #[112,114,111,99])]++(wN p.Name++(wW [(ByteArray.mk #[123])]++(zbb wVar 0 p.Vars++(sL p.Body 0 0++wW [(ByteArray.mk #[125])]))))
def szP (p:z3h):Nat:=1+p.Vars.length+szL p.Body
def okP (p:z3h):Prop:=p.Name.size≤4194304∧(∀ v∈p.Vars,v.size≤4194304)∧okL p.Body
theorem zd0 {β:Type} (k:Nat):∀ l:List β,sumN (fun _=>k) l=k*l.length
 | []=>by simp [sumN]
 | x::r=>by simp only [sumN,zd0 k r,List.length_cons,Nat.mul_succ];omega
theorem zwn (l:List ByteArray) (i:Nat):(zbb wVar i l).ws.length≤3*l.length:=by
 rw [← zd0];exact zcg fun i x _=>by simp [wVar,wW,wN]
theorem z05u (p:z3h):(sP p).ws.length≤5*szP p:=by
 have h1:=zwn p.Vars 0
 have h2:=zph p.Body 0 0
 unfold sP szP;simp [wW,wN];omega
def zqp (_:Nat) (m:z4j):Wr:=wI m.From++(wN m.Tag++(wI m.To++wW [(ByteArray.mk #[59])]))
def sR (r:z3g):Wr:=wW [(ByteArray.mk #[114,117,108,101])]++(wN r.Chan++(wW [(ByteArray.mk #[123])]++(zbb zqp 0 r.Moves++wW [(ByteArray.mk #[125])])))
def szR (r:z3g):Nat:=1+r.Moves.length
def okR (r:z3g):Prop:=r.Chan.size≤4194304∧∀ m∈r.Moves,in64 m.From∧m.Tag.size≤4194304∧in64 m.To
theorem zsk (l:List z4j) (i:Nat):(zbb zqp i l).ws.length≤4*l.length:=by
 rw [← zd0];exact zcg fun i x _=>by simp [zqp,wW,wN,wI]
theorem z01l (r:z3g):(sR r).ws.length≤5*szR r:=by
 have h1:=zsk r.Moves 0
 unfold sR szR;simp [wW,wN];omega
def kindOk (k:Int):Bool:=decide (k≥0)&&decide (k<3)
def z04l (k:Int):ByteArray:=match k with
 | 0=>ByteArray.mk #[98,108,111,99,107]|1=>ByteArray.mk #[100,114,111,112]|_=>ByteArray.mk #[108,111,115,115,121]
theorem z04m {k:Int} (h:kindOk k=true):idx [(ByteArray.mk #[98,108,111,99,107]),(ByteArray.mk #[100,114,111,112]),(ByteArray.mk #[108,111,115,115,121])] k=some (z04l k):=by
 unfold kindOk at h
 simp only [Bool.and_eq_true,decide_eq_true_eq] at h
 have:k=0∨k=1∨k=2:=by omega
 rcases this with rfl|rfl|rfl <;> rfl
def wTag (i:Nat) (t:ByteArray):Wr:=if i=0 then wN t else wW [(ByteArray.mk #[44])]++wN t
def sCh (c:z39):Wr:=wW [(ByteArray.mk #[99,104,97,110])]++(wN c.Name++((if kindOk c.Kind then wW [z04l c.Kind] else wM false)++(wI c.Size++(wW [(ByteArray.mk #[102,114,111,109])]++(wN c.From++(wW [(ByteArray.mk #[116,111])]++(wN c.To++(wW [(ByteArray.mk #[123])]++(wM (!c.Tags.isEmpty)++(zbb wTag 0 c.Tags++wW [(ByteArray.mk #[125]),(ByteArray.mk #[59])]))))))))))
def szCh (c:z39):Nat:=3+c.Tags.length
def okCh (c:z39):Prop:=c.Name.size≤4194304∧c.From.size≤4194304∧c.To.size≤4194304∧in64 c.Size∧∀ t∈c.Tags,t.size≤4194304
theorem z08x (i:Nat) (t:ByteArray):(wTag i t).ws.length≤2:=by unfold wTag;split <;> simp [wN,wW]
theorem zwo (l:List ByteArray) (i:Nat):(zbb wTag i l).ws.length≤2*l.length:=by
 rw [← zd0];exact zcg fun i x _=>z08x i x
theorem zuz (c:z39):(sCh c).ws.length≤5*szCh c:=by
 have h1:=zwo c.Tags 0
 unfold sCh szCh;split <;> simp [wW,wN,wI,wM] <;> omega
def sSys (s:z23):Wr:=zbb (fun _=>sCh) 0 s.Chans++(zbb (fun _=>sR) 0 s.Rules++zbb (fun _=>sP) 0 s.Procs)
def zba (s:z23):Nat:=sumN szCh s.Chans+sumN szR s.Rules+sumN szP s.Procs
def zye (s:z23):Prop:=(∀ c∈s.Chans,okCh c)∧(∀ c∈s.Rules,okR c)∧(∀ c∈s.Procs,okP c)
def endW (x:Wr):List ByteArray × Int:=if x.bad then ([],5) else if x.dp then ([],6) else if 2000<x.ws.length then ([],4) else (x.ws,0)
theorem zd5 {β:Type} {c:β→Nat}:∀ {l:List β} {x:β},x∈l→c x≤sumN c l
 | y::r,x,h=>by
  rcases List.mem_cons.1 h with rfl|h
  ·simp only [sumN];omega
  ·have:=zd5 (c:=c) h;simp only [sumN];omega
theorem zd4 {β:Type} {c:β→Nat} (h:∀ x,1≤c x):∀ (l:List β),l.length≤sumN c l
 | []=>by simp
 | x::r=>by have:=zd4 h r;have:=h x;simp only [sumN,List.length_cons];omega
theorem zgo {β:Type} (k:Nat) (c:β→Nat):∀ (l:List β),sumN (fun x=>k*c x) l=k*sumN c l
 | []=>by simp [sumN]
 | x::r=>by simp only [sumN,zgo k c r,Nat.mul_add]
theorem z04n (s:z23):(sSys s).ws.length≤5*zba s:=by
 have h1:=zcg (g:=fun _=>sCh) (c:=fun x=>5*szCh x) (l:=s.Chans) (i:=0) fun i x _=>zuz x
 have h2:=zcg (g:=fun _=>sR) (c:=fun x=>5*szR x) (l:=s.Rules) (i:=0) fun i x _=>z01l x
 have h3:=zcg (g:=fun _=>sP) (c:=fun x=>5*szP x) (l:=s.Procs) (i:=0) fun i x _=>z05u x
 rw [zgo] at h1 h2 h3
 unfold sSys zba;simp only [Wr.ws_app,List.length_append];omega
def Sm (x:Wr):Prop:=∀ w∈x.ws,w.size≤4194304
theorem Sm.app {x y:Wr} (h:Sm x) (k:Sm y):Sm (x++y):=fun w hw=>by
 rcases List.mem_append.1 hw with hw|hw
 ·exact h w hw
 ·exact k w hw
theorem z01m:Sm Wr.nil:=fun w hw=>by cases hw
theorem sm_M (b:Bool):Sm (wM b):=fun w hw=>by cases hw
theorem sm_D (q:Int):Sm (wD q):=fun w hw=>by cases hw
theorem sm_N {s:ByteArray} (h:s.size≤4194304):Sm (wN s):=fun w hw=>by
 simp only [wN,List.mem_singleton] at hw;rw [hw];exact h
theorem sm_I {n:Int} (h:in64 n):Sm (wI n):=fun w hw=>by
 simp only [wI,List.mem_singleton] at hw
 rw [hw]
 have:=Lib.itoa_length_le n h.1 h.2
 have e:(zfy n).size=(Lib.itoa n).length:=by rw [← z4b];rfl
 omega
theorem sm_1 {s:ByteArray} (h:s.size≤4194304):Sm (wW [s]):=fun w hw=>by
 simp only [wW,List.mem_singleton] at hw;rw [hw];exact h
theorem sm_2 {s t:ByteArray} (h:s.size≤4194304) (k:t.size≤4194304):Sm (wW [s,t]):=fun w hw=>by
 simp only [wW,List.mem_cons,List.not_mem_nil,or_false] at hw
 rcases hw with rfl|rfl
 ·exact h
 ·exact k
theorem z04o (k:Int):(znn k).size≤4194304:=by unfold znn;split <;> decide
theorem z0c4 (k:Int):(opW k).size≤4194304:=by unfold opW;split <;> decide
theorem zqq {e:z06} (hn:in64 e.Num) (hs:e.Name.size≤4194304):Sm (zdo e):=by
 unfold zdo
 refine (sm_M _).app ?_
 split
 ·exact sm_I hn
 ·exact (sm_M _).app (sm_N hs)
theorem z01n {m:Bool} {f:Int→Wr} (h:∀ q,Sm (f q)) (p:Int):Sm (inP m f p):=by
 unfold inP
 split
 ·exact (sm_1 (by decide)).app ((sm_D _).app ((h _).app (sm_1 (by decide))))
 ·exact h p
theorem sm_E:∀ (e:z06),okE e→∀ p,Sm (sE e p)
 | ⟨k,n,s,[]⟩,h,p=>by
  simp only [okE] at h
  simp only [sE]
  exact zqq h.1 h.2.1
 | ⟨k,n,s,[x]⟩,h,p=>by
  simp only [okE,okEs] at h
  simp only [sE]
  split
  ·exact (sm_1 (by decide)).app ((sm_D _).app (z01n (sm_E x h.2.2.1) _))
  ·exact zqq h.1 h.2.1
 | ⟨k,n,s,[l,r]⟩,h,p=>by
  simp only [okE,okEs] at h
  simp only [sE]
  split
  ·exact (z01n (sm_E l h.2.2.1) _).app ((sm_1 (z04o _)).app (z01n (sm_E r h.2.2.2.1) _))
  ·exact zqq h.1 h.2.1
 | ⟨k,n,s,a::b::c::l⟩,h,p=>by
  simp only [okE] at h
  simp only [sE]
  exact zqq h.1 h.2.1
theorem sm_C {c:z3t} (h:okC c) (p:Int):Sm (sC c p):=by
 unfold sC
 refine (sm_1 (by decide)).app ((sm_E _ h.1 p).app (Sm.app ?_ ((sm_E _ h.2 p).app (sm_1 (by decide)))))
 split
 ·exact sm_1 (z0c4 _)
 ·exact sm_M _
theorem z01o {f:Int→Wr} (h:∀ q,Sm (f q)) (b:Int):Sm (inB f b):=(sm_1 (by decide)).app ((sm_D _).app ((h _).app (sm_1 (by decide))))
mutual
theorem sm_S:∀ (s:z05),okS s→∀ b p,Sm (sS s b p)
 | .mk k n t e c bo el ar,h,b,p=>by
  simp only [okS] at h
  obtain ⟨on,ot,oe,oc,ob,oel,oar⟩:=h
  have hB:Sm (inB (fun q=>sL bo q p) b):=z01o (fun q=>sm_L bo ob q p) b
  have hL:Sm (inB (fun q=>sL el q p) b):=z01o (fun q=>sm_L el oel q p) b
  have hA:=sm_A ar oar b p
  have hE:=sm_E e oe p
  have hC:=sm_C oc p
  simp only [sS]
  split
  ·exact (sm_N on).app ((sm_1 (by decide)).app (hE.app (sm_1 (by decide))))
  ·split
   ·refine (sm_1 (by decide)).app (hC.app (hB.app ?_))
    split
    ·exact z01m
    ·exact (sm_1 (by decide)).app hL
   ·split
    ·exact (sm_1 (by decide)).app (hC.app hB)
    ·split
     ·exact (sm_1 (by decide)).app ((sm_N on).app ((sm_1 (by decide)).app ((sm_N ot).app ((sm_1 (by decide)).app (hE.app (sm_2 (by decide) (by decide)))))))
     ·split
      ·exact (sm_1 (by decide)).app ((sm_N on).app ((sm_M _).app ((sm_1 (by decide)).app (hA.app (sm_1 (by decide))))))
      ·split
       ·exact (sm_1 (by decide)).app (hC.app (sm_1 (by decide)))
       ·split
        ·exact (sm_1 (by decide)).app ((sm_N on).app (sm_1 (by decide)))
        ·exact sm_M _
theorem sm_L:∀ (l:List z05),okL l→∀ b p,Sm (sL l b p)
 | [],h,b,p=>by simp only [sL];exact z01m
 | s::r,h,b,p=>by
  simp only [okL] at h
  simp only [sL]
  exact (sm_S s h.1 b p).app (sm_L r h.2 b p)
theorem sm_A:∀ (l:List z0y),okA l→∀ b p,Sm (sA l b p)
 | [],h,b,p=>by simp only [sA];exact z01m
 | .mk t v bo::r,h,b,p=>by
  simp only [okA] at h
  have hB:Sm (inB (fun q=>sL bo q p) b):=z01o (fun q=>sm_L bo h.2.2.1 q p) b
  simp only [sA]
  exact (sm_N h.1).app ((sm_1 (by decide)).app ((sm_N h.2.1).app ((sm_1 (by decide)).app (hB.app (sm_A r h.2.2.2 b p)))))
end
theorem z08y {β γ O:Type} {body:Int × List γ→Option (Sum (Int × List γ) (Sum O (List γ)))} {n H:Nat} (f:β→γ) (a1:List β) (hlen:a1.length≤400000000000)
  (hs:∀ (i:Nat) x acc,i<a1.length→idx a1 (i:Int)=some x→x∈a1→acc.length=i→IntKind.i64.wrap ((i:Int)+1)=((i+1:Nat):Int)→Sn n H (body ((i:Int),acc)) (.inl (((i+1:Nat):Int),acc++[f x])))
  (he:∀ acc,body ((a1.length:Int),acc)=some (.inr (.inr acc))) :
  ∀ (l:List β) (i:Nat) (acc:List γ),a1.drop i=l→i≤a1.length→acc.length=i→Sn n H (iter body ((i:Int),acc)) (.inr (acc++l.map f)):=by
 intro l
 induction l with
 | nil =>
  intro i acc hd hi ha
  have:i=a1.length:=by have:=List.drop_eq_nil_iff.1 hd;omega
  subst this
  exact .inl (by rw [z3i (he acc)];simp)
 | cons s r ih =>
  intro i acc hd hi ha
  have hlt:i<a1.length:=by
   refine Nat.lt_of_not_le fun h=>?_
   rw [List.drop_of_length_le h] at hd;cases hd
  rw [List.drop_eq_getElem_cons hlt] at hd
  injection hd with h1 h2
  have hi2:idx a1 (i:Int)=some s:=by rw [zgs hlt,h1]
  have hw:IntKind.i64.wrap ((i:Int)+1)=((i+1:Nat):Int):=by rw [w64 (by omega) (by omega)];omega
  have hm:s∈a1:=by rw [← h1];exact List.getElem_mem hlt
  have h3:=hs i s acc hlt hi2 hm ha hw
  have h4:=ih (i+1) (acc++[f s]) h2 hlt (by simp;omega)
  rw [z8o]
  refine Sn.bind h3 ?_
  simpa using h4
theorem zmi {β γ O:Type} {body:Int × List γ→Option (Sum (Int × List γ) (Sum O (List γ)))} {n H:Nat} (f:β→γ) (a1:List β) (hlen:a1.length≤400000000000)
  (hs:∀ (i:Nat) x acc,i<a1.length→idx a1 (i:Int)=some x→x∈a1→acc.length=i→IntKind.i64.wrap ((i:Int)+1)=((i+1:Nat):Int)→Sn n H (body ((i:Int),acc)) (.inl (((i+1:Nat):Int),acc++[f x])))
  (he:∀ acc,body ((a1.length:Int),acc)=some (.inr (.inr acc))):Sn n H (iter body (0,[])) (.inr (a1.map f)):=by
 have:=z08y f a1 hlen hs he a1 0 [] rfl (by omega) rfl
 simpa using this
theorem zhz {β γ O:Type} {body:Int × List γ→Option (Sum (Int × List γ) (Sum O (List γ)))} (f:β→γ) (a1:List β) (hlen:a1.length≤400000000000)
  (hs:∀ (i:Nat) x acc,i<a1.length→idx a1 (i:Int)=some x→x∈a1→acc.length=i→IntKind.i64.wrap ((i:Int)+1)=((i+1:Nat):Int)→body ((i:Int),acc)=some (.inl (((i+1:Nat):Int),acc++[f x])))
  (he:∀ acc,body ((a1.length:Int),acc)=some (.inr (.inr acc))):iter body (0,[])=some (.inr (a1.map f)):=by
 rcases zmi (n:=0) (H:=0) f a1 hlen (fun i x acc h1 h2 h3 h4 h5=>.inl (hs i x acc h1 h2 h3 h4 h5)) he with h|⟨_,h⟩
 ·exact h
 ·omega
mutual
def cE:z04→z06
 | ⟨k,n,s,l⟩=>⟨k,n,s,cEs l⟩
def cEs:List z04→List z06
 | []=>[]
 | e::r=>cE e::cEs r
end
theorem z01p:∀ l,cEs l=l.map cE
 | []=>rfl
 | e::r=>by simp only [cEs,List.map_cons,z01p r]
theorem zan (e:z06):1≤szE e:=by cases e;simp only [szE];omega
theorem zqc:∀ {l:List z04} {x:z04},x∈l→szE (cE x)≤szEs (cEs l)
 | y::r,x,h=>by
  rcases List.mem_cons.1 h with rfl|h
  ·simp only [cEs,szEs];omega
  ·have:=zqc h;simp only [cEs,szEs];omega
theorem zqb:∀ l:List z04,l.length≤szEs (cEs l)
 | []=>by simp
 | e::r=>by have:=zqb r;have:=zan (cE e);simp only [cEs,szEs,List.length_cons];omega
theorem cvE:∀ (N:Nat) (e:z04),szE (cE e)≤N→N≤400000000000→∀ n,Sn n (szE (cE e)) (zaq n e) (cE e):=by
 intro N
 induction N with
 | zero=>intro e he;have:=zan (cE e);omega
 | succ N ih =>
  intro e he hN n
  obtain ⟨k,m,s,l⟩:=e
  simp only [cE,szE] at he ⊢
  cases n with
  | zero=>exact .inr ⟨rfl,by omega⟩
  | succ n =>
   have hl:=zqb l
   have h:=zmi (n:=n) (H:=szEs (cEs l)) (body:=zcu (zaq n) ⟨k,m,s,l⟩) cE l (by omega)
    (fun i x acc hi hx hm ha hw=>by
     unfold zcu
     rw [if_pos (by simpa using hi)]
     simp only [hx,Option.bind_eq_bind,Option.bind_some,hw]
     have hz:=zqc hm
     refine Sn.bind (f:=_) ((ih x (by omega) (by omega) n).mono hz) (.inl ?_)
     rw [z6o (by simp;omega)]
     rfl)
    (fun acc=>by unfold zcu;rw [if_neg (by simp)])
   have t2:=(Sn.bind (f:=Sum.elim (fun _=>none) (fun j1=>some (z06.mk k m s j1))) h (.inl (by rw [← z01p];rfl:_=some (z06.mk k m s (cEs l))))).up
   exact t2.mono (by omega)
theorem zv0 {e:z04} (h:szE (cE e)≤400000000000):zkd e=some (cE e):=Sn.unf fun n=>cvE _ e (Nat.le_refl _) h n
def cC (c:z1k):z3t:=⟨c.Op,cE c.L,cE c.R⟩
theorem z08z {c:z1k} (h:szC (cC c)≤400000000000):zke c=some (cC c):=by
 unfold szC cC at h
 simp only at h
 unfold zke
 rw [zv0 (e:=c.L) (by omega),zv0 (e:=c.R) (by omega)]
 rfl
mutual
def cS:z03→z05
 | .mk k n t e c b l a=>.mk k n t (cE e) (cC c) (cL b) (cL l) (cA a)
def cL:List z03→List z05
 | []=>[]
 | s::r=>cS s::cL r
def cA:List z2k→List z0y
 | []=>[]
 | .mk t v b::r=>.mk t v (cL b)::cA r
end
def cArm (x:z2k):z0y:=.mk x.Tag x.Var (cL x.Body)
theorem zsl:∀ l,cL l=l.map cS
 | []=>rfl
 | e::r=>by simp only [cL,List.map_cons,zsl r]
theorem zsm:∀ l,cA l=l.map cArm
 | []=>rfl
 | .mk t v b::r=>by simp only [cA,List.map_cons,zsm r];rfl
theorem z05v:∀ {l:List z03} {x:z03},x∈l→szS (cS x)+1≤szL (cL l)
 | y::r,x,h=>by
  have:=z6k (cL r)
  rcases List.mem_cons.1 h with rfl|h
  ·simp only [cL,szL];omega
  ·have:=z05v h;simp only [cL,szL];omega
theorem z05w:∀ {l:List z2k} {x:z2k},x∈l→szL (cL x.Body)≤szA (cA l)
 | .mk t v b::r,x,h=>by
  rcases List.mem_cons.1 h with rfl|h
  ·simp only [cA,szA];show szL (cL b)≤_;omega
  ·have:=z05w h;simp only [cA,szA];omega
theorem zwp:∀ l:List z03,l.length≤szL (cL l):=fun l=>by
 have:=zuy (cL l)
 rw [zsl,List.length_map] at this
 rw [zsl];exact this
theorem zsn:∀ l:List z2k,l.length≤szA (cA l):=fun l=>by
 have:=zuf (cA l)
 rw [zsm,List.length_map] at this
 rw [zsm];exact this
theorem cvL:∀ (N:Nat) (l:List z03),szL (cL l)≤N→N≤400000000000→∀ n,Sn n (szL (cL l)) (z8e n l) (cL l):=by
 intro N
 induction N with
 | zero=>intro l hl;have:=z6k (cL l);omega
 | succ N ih =>
  intro l hl hN n
  cases n with
  | zero=>exact .inr ⟨rfl,z6k _⟩
  | succ n =>
   have hll:=zwp l
   have hp:=z6k (cL l)
   have h:=zmi (n:=n) (H:=szL (cL l) - 1) (body:=zbz (z8e n) l) cS l (by omega)
    (fun i x acc hi hx hm ha hw=>by
     obtain ⟨k,nm,tg,e,c,bo,el,ar⟩:=x
     have hz:=z05v hm
     simp only [cS,szS] at hz
     have p1:=z6k (cL bo)
     have p2:=z6k (cL el)
     have p3:=zju (cA ar)
     unfold zbz
     rw [if_pos (by simpa using hi)]
     simp only [hx,Option.bind_eq_bind,Option.bind_some,hw]
     dsimp only [z03.Kind,z03.Name,z03.Tag,z03.E,z03.C,z03.Body,z03.Else,z03.Arms]
     rw [zv0 (e:=e) (by omega),z08z (c:=c) (by omega)]
     simp only [Option.bind_some]
     have har:=zmi (n:=n) (H:=szL (cL l) - 1) (body:=zby (z8e n) (.mk k nm tg e c bo el ar)) cArm ar (by have:=zsn ar;omega)
      (fun i x acc hi hx hm ha hw=>by
       unfold zby
       rw [if_pos (by show decide ((i:Int)<(ar.length:Int))=true;simpa using hi)]
       dsimp only [z03.Arms]
       simp only [hx,Option.bind_eq_bind,Option.bind_some,hw]
       have hz:=z05w hm
       refine Sn.bind (f:=_) ((ih x.Body (by omega) (by omega) n).mono (by omega)) (.inl ?_)
       have:=zsn ar
       rw [z6o (by simp;omega)]
       rfl)
      (fun acc=>by unfold zby;rw [if_neg (by simp [z03.Arms])])
     have kb:=(ih bo (by omega) (by omega) n).mono (by omega:_≤szL (cL l) - 1)
     have ke:=(ih el (by omega) (by omega) n).mono (by omega:_≤szL (cL l) - 1)
     have fin:∀ v9,Sn n (szL (cL l) - 1) ((app 288 acc [v9]).bind fun v9=>some (Sum.inl (((i+1:Nat):Int),v9)):Option (Sum (Int × List z05) (Sum (List z05) (List z05)))) (.inl (((i+1:Nat):Int),acc++[v9])):=fun v9=>.inl (by rw [z6o (by simp;omega)];rfl)
     refine Sn.bind (f:=_) kb (Sn.bind (f:=_) ke (Sn.bind (f:=_) har ?_))
     have:=fin (.mk k nm tg (cE e) (cC c) (cL bo) (cL el) (ar.map cArm))
     rw [← zsm] at this
     simp only [cS]
     rw [← zsm]
     exact this)
    (fun acc=>by unfold zbz;rw [if_neg (by simp)])
   have t2:=(Sn.bind (f:=Sum.elim (fun _=>none) (fun j1=>some j1)) h (.inl (by rw [← zsl];rfl:_=some (cL l)))).up
   exact t2.mono (by omega)
theorem z04p {l:List z03} (h:szL (cL l)≤400000000000):znd l=some (cL l):=Sn.unf fun n=>cvL _ l (Nat.le_refl _) h n
def cCh (c:z3l):z39:=⟨c.Name,c.Kind,c.Size,c.From,c.To,c.Tags⟩
def cMo (m:z6c):z4j:=⟨m.From,m.Tag,m.To⟩
def cRu (r:z4t):z3g:=⟨r.Chan,r.Moves.map cMo⟩
def cPr (p:z31):z3h:=⟨p.Name,p.Vars,cL p.Body⟩
def cSys (s:z0i):z23:=⟨s.Chans.map cCh,s.Rules.map cRu,s.Procs.map cPr⟩
theorem zkt {β γ:Type} (c:γ→Nat) (f:β→γ):∀ l:List β,sumN c (l.map f)=sumN (fun x=>c (f x)) l
 | []=>rfl
 | x::r=>by simp only [List.map_cons,sumN,zkt c f r]
theorem z0ay {s:z0i} (h:zba (cSys s)≤400000000000):zcv s=some (cSys s):=by
 unfold zba cSys at h
 simp only [zkt] at h
 have n1:=zd4 (c:=fun x=>szCh (cCh x)) (fun x=>by unfold szCh;omega) s.Chans
 have n2:=zd4 (c:=fun x=>szR (cRu x)) (fun x=>by unfold szR;omega) s.Rules
 have n3:=zd4 (c:=fun x=>szP (cPr x)) (fun x=>by unfold szP;omega) s.Procs
 unfold zcv
 rw [zhz (body:=zaa s) cCh s.Chans (by omega) (fun i x acc hi hx hm ha hw=>by
   unfold zaa
   rw [if_pos (by simpa using hi)]
   simp only [hx,Option.bind_eq_bind,Option.bind_some,hw]
   have hz:=zd5 (c:=fun x=>szCh (cCh x)) hm
   have hz2:szCh (cCh x)=3+x.Tags.length:=rfl
   rw [z6o (by simp;omega)]
   simp only [Option.bind_some,List.nil_append]
   rw [z6o (by simp;omega)]
   rfl) (fun acc=>by unfold zaa;rw [if_neg (by simp)])]
 simp only [Option.bind_eq_bind,Option.bind_some,Sum.elim_inr]
 rw [zhz (body:=zac s) cRu s.Rules (by omega) (fun i x acc hi hx hm ha hw=>by
   unfold zac
   rw [if_pos (by simpa using hi)]
   simp only [hx,Option.bind_eq_bind,Option.bind_some,hw]
   have hz:=zd5 (c:=fun x=>szR (cRu x)) hm
   have hz2:szR (cRu x)=1+(x.Moves.map cMo).length:=rfl
   rw [List.length_map] at hz2
   rw [zhz (body:=zab s ((i:Int),acc)) cMo x.Moves (by omega) (fun j y ac hj hy hym hya hw=>by
    unfold zab
    simp only [hx,Option.bind_eq_bind,Option.bind_some]
    rw [if_pos (by simpa using hj)]
    simp only [hy,Option.bind_eq_bind,Option.bind_some,hw]
    rw [z6o (by simp;omega)]
    rfl) (fun ac=>by unfold zab;simp only [hx,Option.bind_eq_bind,Option.bind_some];rw [if_neg (by simp)])]
   simp only [Option.bind_some,Sum.elim_inr]
   rw [z6o (by simp;omega)]
   rfl) (fun acc=>by unfold zac;rw [if_neg (by simp)])]
 simp only [Option.bind_some,Sum.elim_inr]
 rw [zhz (body:=zad s) cPr s.Procs (by omega) (fun i x acc hi hx hm ha hw=>by
   unfold zad
   rw [if_pos (by simpa using hi)]
   simp only [hx,Option.bind_eq_bind,Option.bind_some,hw]
   have hz:=zd5 (c:=fun x=>szP (cPr x)) hm
   have hz2:szP (cPr x)=1+x.Vars.length+szL (cL x.Body):=rfl
   rw [z6o (by simp;omega)]
   simp only [Option.bind_some,List.nil_append]
   rw [z04p (by omega)]
   simp only [Option.bind_some]
   rw [z6o (by simp;omega)]
   rfl) (fun acc=>by unfold zad;rw [if_neg (by simp)])]
 rfl
theorem zfz {i:Nat} (h:i<4611686018427387904):IntKind.i64.wrap ((i:Int)+1)=((i+1:Nat):Int):=by rw [w64 (by omega) (by omega)];omega
theorem z04q {β O:Type} {body:Int→Option (Sum Int (Sum O Unit))} {n H:Nat} (l:List β) (p:β→Bool) (r:O) (hlen:l.length≤4611686018427387904)
  (hs:∀ (i:Nat) (x:β),l[i]?=some x→idx l (i:Int)=some x→x∈l→i<l.length→IntKind.i64.wrap ((i:Int)+1)=((i+1:Nat):Int)→Sn n H (body (i:Int)) (if p x then .inl ((i+1:Nat):Int) else .inr (.inl r)))
  (he:body (l.length:Int)=some (.inr (.inr ()))):∀ (m:List β) (i:Nat),l.drop i=m→i≤l.length→Sn n H (iter body (i:Int)) (if m.all p then .inr () else .inl r):=by
 intro m
 induction m with
 | nil =>
  intro i hd hi
  have:i=l.length:=by have:=List.drop_eq_nil_iff.1 hd;omega
  subst this
  exact .inl (by rw [z3i he];rfl)
 | cons x m ih =>
  intro i hd hi
  have hlt:i<l.length:=by
   refine Nat.lt_of_not_le fun h=>?_
   rw [List.drop_of_length_le h] at hd;cases hd
  rw [List.drop_eq_getElem_cons hlt] at hd
  injection hd with h1 h2
  have h3:=hs i x (by rw [← h1];exact List.getElem?_eq_getElem hlt) (by rw [zgs hlt,h1]) (by rw [← h1];exact List.getElem_mem hlt) hlt (zfz (by omega))
  rw [z8o]
  refine Sn.bind (f:=_) h3 ?_
  cases hp:p x with
  | true =>
   have h4:=ih (i+1) h2 hlt
   simp only [List.all_cons,hp,Bool.true_and,if_true]
   exact h4
  | false =>
   simp only [List.all_cons,hp,Bool.false_and,Bool.false_eq_true,if_false]
   exact .inl rfl
theorem zqa {β O:Type} {body:Int→Option (Sum Int (Sum O Unit))} {n H:Nat} (l:List β) (p:β→Bool) (r:O) (hlen:l.length≤4611686018427387904)
  (hs:∀ (i:Nat) (x:β),l[i]?=some x→idx l (i:Int)=some x→x∈l→i<l.length→IntKind.i64.wrap ((i:Int)+1)=((i+1:Nat):Int)→Sn n H (body (i:Int)) (if p x then .inl ((i+1:Nat):Int) else .inr (.inl r)))
  (he:body (l.length:Int)=some (.inr (.inr ()))):Sn n H (iter body 0) (if l.all p then .inr () else .inl r):=z04q l p r hlen hs he l 0 rfl (by omega)
theorem zau {β O:Type} {body:Int→Option (Sum Int (Sum O Unit))} (l:List β) (p:β→Bool) (r:O) (hlen:l.length≤4611686018427387904)
  (hs:∀ (i:Nat) (x:β),l[i]?=some x→idx l (i:Int)=some x→x∈l→i<l.length→IntKind.i64.wrap ((i:Int)+1)=((i+1:Nat):Int)→body (i:Int)=some (if p x then .inl ((i+1:Nat):Int) else .inr (.inl r)))
  (he:body (l.length:Int)=some (.inr (.inr ()))):iter body 0=some (if l.all p then .inr () else .inl r):=by
 rcases zqa (n:=0) (H:=0) l p r hlen (fun i x h1 h2 h3 h4 h5=>.inl (hs i x h1 h2 h3 h4 h5)) he with h|⟨_,h⟩
 ·exact h
 ·omega
theorem zmj (b:UInt8):zbf (b.toNat:Int)=some (isL b):=by
 unfold zbf isL
 by_cases h:97≤b.toNat
 ·rw [if_pos (by simp;omega)];simp only [h,decide_true,Bool.true_and];exact congrArg some (decide_eq_decide.mpr (by omega))
 ·rw [if_neg (by simp;omega)];simp only [h,decide_false,Bool.false_and]
theorem znz (b:UInt8):zcb (b.toNat:Int)=some (isD b):=by
 unfold zcb isD
 by_cases h:48≤b.toNat
 ·rw [if_pos (by simp;omega)];simp only [h,decide_true,Bool.true_and];exact congrArg some (decide_eq_decide.mpr (by omega))
 ·rw [if_neg (by simp;omega)];simp only [h,decide_false,Bool.false_and]
def z01q:List ByteArray:=[(ByteArray.mk #[99,104,97,110]),(ByteArray.mk #[98,108,111,99,107]),(ByteArray.mk #[100,114,111,112]),(ByteArray.mk #[108,111,115,115,121]),(ByteArray.mk #[102,114,111,109]),(ByteArray.mk #[116,111]),(ByteArray.mk #[114,117,108,101]),(ByteArray.mk #[112,114,111,99]),(ByteArray.mk #[118,97,114]),(ByteArray.mk #[105,102]),(ByteArray.mk #[101,108,115,101]),(ByteArray.mk #[119,104,105,108,101]),(ByteArray.mk #[115,101,110,100]),(ByteArray.mk #[114,101,99,118]),(ByteArray.mk #[97,115,115,101,114,116]),(ByteArray.mk #[105,110,112,117,116])]
theorem z01r:z01q.map (·.data.toList)=resv:=rfl
theorem zyi (s:ByteArray):zd6 s=some (decide (s.data.toList∈resv)):=by
 unfold zd6
 show (iter (z7y s z01q) 0).bind _=_
 rw [zau (body:=z7y s z01q) z01q (fun x=>!(x.toList==s.toList)) true (by decide) (fun i x h0 h1 h2 h3 h4=>by
   unfold z7y
   rw [if_pos (by simpa using h3),h1]
   simp only [Option.bind_eq_bind,Option.bind_some,h4]
   cases (x.toList==s.toList) <;> rfl) (by unfold z7y;rw [if_neg (by simp)])]
 simp only [Option.bind_some]
 have e:z01q.all (fun x=>!(x.toList==s.toList))=!decide (s.data.toList∈resv):=by
  rw [Bool.eq_iff_iff,List.all_eq_true,← z01r]
  simp only [Bool.not_eq_true',beq_eq_false_iff_ne,decide_eq_false_iff_not,List.mem_map,not_exists,not_and,Go.ByteArray.toList_eq]
 rw [e]
 cases decide (s.data.toList∈resv) <;> rfl
def twoB:List ByteArray:=[(ByteArray.mk #[61,61]),(ByteArray.mk #[33,61]),(ByteArray.mk #[60,61]),(ByteArray.mk #[62,61])]
def oneB:ByteArray:=ByteArray.mk #[123,125,40,41,59,44,46,61,60,62,43,45,42,47,37]
theorem z0c5 (s:ByteArray) (hs:s.size≤4194304) (p:Nat) (hp:p<s.size):zk8 s (p:Int)=some ((zf1 (s.data.toList.drop p):Nat):Int):=by
 have hl:p<s.data.toList.length:=by rw [z4b];omega
 have e:=List.drop_eq_getElem_cons hl
 have hb:=zcf s p hl
 generalize s.data.toList[p]=a at e hb
 have hw:IntKind.i64.wrap ((p:Int)+2)=((p+2:Nat):Int):=by rw [w64 (by omega) (by omega)];omega
 have h1:=zau (body:=zcn s (p:Int)) twoB (fun x=>!(decide (p+2≤s.size)&&((s.extract p (p+2)).toList==x.toList))) 2 (by decide) (fun i x h0 h1 h2 h3 h4=>by
   unfold zcn
   have h3':(i:Int)<4:=by have:i<4:=h3;omega
   rw [if_pos (by simpa using h3'),hw,h4]
   have h1':idx [(ByteArray.mk #[61,61]),(ByteArray.mk #[33,61]),(ByteArray.mk #[60,61]),(ByteArray.mk #[62,61])] (i:Int)=some x:=h1
   by_cases h2:p+2≤s.size
   ·rw [if_pos (by simp only [decide_eq_true_eq];omega),zqn (by omega) h2]
    simp only [Option.bind_eq_bind,Option.bind_some,h1',h2,decide_true,Bool.true_and]
    cases ((s.extract p (p+2)).toList==x.toList) <;> rfl
   ·rw [if_neg (by simp only [decide_eq_true_eq];omega)]
    simp only [Option.bind_eq_bind,Option.bind_some,h2,decide_false,Bool.false_and]
    rfl) (by unfold zcn;rfl)
 have h2:=zau (body:=zco s (p:Int)) ones (fun x=>!(decide (x=a))) 1 (by decide) (fun i x h0 h1 h2 h3 h4=>by
   unfold zco
   have h3':i<15:=h3
   have hsz:(ByteArray.mk #[123,125,40,41,59,44,46,61,60,62,43,45,42,47,37]).size=15:=rfl
   have hbi:bidx (ByteArray.mk #[123,125,40,41,59,44,46,61,60,62,43,45,42,47,37]) (i:Int)=some (x.toNat:Int):=by
    have:=zcf oneB i h3
    have hx:oneB.data.toList[i]'h3=x:=by
     have:ones[i]?=some (oneB.data.toList[i]'h3):=List.getElem?_eq_getElem (l:=ones) h3
     rw [h0] at this;injection this with this;exact this.symm
    rw [hx] at this;exact this
   rw [hsz,if_pos (by simp only [decide_eq_true_eq];omega),hbi]
   simp only [Option.bind_eq_bind,Option.bind_some,hb,h4]
   by_cases hx:x=a
   ·subst hx;simp
   ·have:¬ ((x.toNat:Int)=(a.toNat:Int)):=fun h=>hx (UInt8.toNat_inj.mp (by omega))
    have h2:((x.toNat:Int)==(a.toNat:Int))=false:=by simpa using this
    rw [h2]
    simp [hx]) (by unfold zco;rfl)
 unfold zk8
 rw [h1]
 have e1:twoB.all (fun x=>!(decide (p+2≤s.size)&&((s.extract p (p+2)).toList==x.toList)))=!decide ((s.data.toList.drop p)[1]?=some 61∧(s.data.toList.drop p).head?∈twos.map some):=by
  rw [Bool.eq_iff_iff]
  have hlen:(s.data.toList.drop p).length=s.size - p:=by rw [List.length_drop,z4b]
  have htd:(s.extract p (p+2)).data.toList=(s.data.toList.drop p).take 2:=by rw [ext_list,List.drop_take];congr 1;omega
  simp only [Go.ByteArray.toList_eq,htd,e] at hlen ⊢
  cases hr:List.drop (p+1) s.data.toList with
  | nil =>
   rw [hr] at hlen
   simp only [List.length_cons,List.length_nil] at hlen
   have:¬ (p+2≤s.size):=by omega
   simp [this]
  | cons c r =>
   rw [hr] at hlen
   simp only [List.length_cons] at hlen
   have:p+2≤s.size:=by omega
   simp only [this,decide_true,Bool.true_and,twoB,List.all_cons,List.all_nil,Bool.and_true,List.take_succ_cons,List.take_zero,List.getElem?_cons_succ,List.getElem?_cons_zero,List.head?_cons,twos,List.map_cons,List.map_nil,List.mem_cons,List.not_mem_nil,or_false,Option.some.injEq,Bool.and_eq_true,Bool.not_eq_true',beq_eq_false_iff_ne,decide_eq_false_iff_not,ne_eq,List.cons.injEq,and_true]
   constructor
   ·rintro ⟨h1,h2,h3,h4⟩ ⟨h5,h6⟩
    subst h5
    simp only [and_true] at h1 h2 h3 h4
    rcases h6 with h|h|h|h
    ·exact h1 h
    ·exact h2 h
    ·exact h3 h
    ·exact h4 h
   ·intro h
    refine ⟨fun g=>h ⟨g.2,.inl g.1⟩,fun g=>h ⟨g.2,.inr (.inl g.1)⟩,fun g=>h ⟨g.2,.inr (.inr (.inl g.1))⟩,fun g=>h ⟨g.2,.inr (.inr (.inr g.1))⟩⟩
 have e2:ones.all (fun x=>!(decide (x=a)))=!decide ((s.data.toList.drop p).head?∈ones.map some):=by
  rw [Bool.eq_iff_iff,e]
  simp only [List.all_eq_true,List.head?_cons,List.mem_map,Option.some.injEq,exists_eq_right,Bool.not_eq_true',decide_eq_false_iff_not]
  constructor
  ·intro h h2;exact h a h2 rfl
  ·rintro h x hx rfl;exact h hx
 rw [e1]
 unfold zf1
 by_cases g:(s.data.toList.drop p)[1]?=some 61∧(s.data.toList.drop p).head?∈twos.map some
 ·rw [if_pos g];simp only [g,and_self,decide_true];rfl
 ·rw [if_neg g]
  simp only [g,decide_false,Bool.not_false,if_true,Option.bind_eq_bind,Option.bind_some,Sum.elim_inr]
  rw [h2,e2]
  by_cases g2:(s.data.toList.drop p).head?∈ones.map some
  ·rw [if_pos g2];simp only [g2,decide_true];rfl
  ·rw [if_neg g2];simp only [g2,decide_false];rfl
def tokR (t:Tok):z0r:=⟨t.kind,⟨t.text.toArray⟩,(t.num:Int),(t.at_:Int)⟩
def finR (size:Nat) (z:List Tok × Option (Nat × Int)):List z0r × Int × Int :=
 ((told size z).1.map tokR,(told size z).2.1,(told size z).2.2)
theorem z0dg (s:ByteArray) (hs:s.size≤4194304) (b:UInt8) (hA:isA b=true):∀ (d i:Nat),s.size - i=d→i≤s.size →
  iter (za5 s (b.toNat:Int)) (i:Int)=some (.inr ((i+runL (s.data.toList.drop i):Nat):Int)):=by
 intro d
 induction d with
 | zero =>
  intro i hd hi
  refine z3i ?_
  unfold za5
  rw [if_neg (by simp;omega),List.drop_of_length_le (by rw [z4b];omega)]
  simp [runL]
 | succ d ih =>
  intro i hd hi
  have hl:i<s.data.toList.length:=by rw [z4b];omega
  have e:=List.drop_eq_getElem_cons hl
  have hb:=zcf s i hl
  generalize s.data.toList[i]=c at e hb
  have hw:=zfz (i:=i) (by omega)
  have IH:=ih (i+1) (by omega) (by omega)
  have hlt:(decide ((i:Int)<(s.size:Int)))=true:=by simp;omega
  have hbody:za5 s (b.toNat:Int) (i:Int)=some (if isA c then .inl ((i+1:Nat):Int) else .inr (.inr (i:Int))):=by
   unfold za5
   rw [if_pos hlt]
   simp only [hb,Option.bind_eq_bind,Option.bind_some,zmj,znz,hw]
   unfold isA at hA ⊢
   cases hL:isL b
   ·rw [hL] at hA
    simp only [Bool.false_or] at hA
    rw [hA]
    cases isL c <;> cases isD c <;> rfl
   ·cases isL c <;> cases isD c <;> rfl
  rw [e,zev]
  by_cases hc:isA c=true
  ·rw [if_pos hc]
   rw [if_pos hc] at hbody
   rw [zce hbody,IH]
   congr 2;omega
  ·rw [if_neg hc]
   rw [if_neg hc] at hbody
   rw [z3i hbody];rfl
theorem z0c6 (s:ByteArray) (b:UInt8) (hA:isA b=false) (i:Nat) (hi:i<s.size):iter (za5 s (b.toNat:Int)) (i:Int)=some (.inr (i:Int)):=by
 refine z3i ?_
 unfold za5
 unfold isA at hA
 rw [Bool.or_eq_false_iff] at hA
 rw [if_pos (by simp;omega)]
 simp only [Option.bind_eq_bind,Option.bind_some,zmj,znz,hA.1,hA.2]
 rfl
theorem z04r (t:Bs) (b:UInt8):dval (t++[b])=10*dval t+(b.toNat - 48):=by simp [dval,List.foldl_append]
theorem z0dh (v:ByteArray) (x1:Int × List z0r) (hv:v.size≤10):iter (zbg v x1) (0,0)=some (if v.data.toList.all isD then .inr ((dval v.data.toList:Nat):Int) else .inl ([],x1.1,3)):=by
 have step:∀ (d i:Nat),v.size - i=d→i≤v.size→(v.data.toList.take i).all isD=true→iter (zbg v x1) ((i:Int),((dval (v.data.toList.take i):Nat):Int))=some (if v.data.toList.all isD then .inr ((dval v.data.toList:Nat):Int) else .inl ([],x1.1,3)):=by
  intro d
  induction d with
  | zero =>
   intro i hd hi ha
   have:i=v.size:=by omega
   subst this
   rw [List.take_of_length_le (by rw [z4b];omega)] at ha ⊢
   rw [if_pos ha]
   refine z3i ?_
   unfold zbg
   rw [if_neg (by simp)]
  | succ d ih =>
   intro i hd hi ha
   have hl:i<v.data.toList.length:=by rw [z4b];omega
   have hb:=zcf v i hl
   have htk:v.data.toList.take (i+1)=v.data.toList.take i++[v.data.toList[i]]:=by
    rw [List.take_add_one,List.getElem?_eq_getElem hl];rfl
   have hmem:v.data.toList[i]∈v.data.toList:=List.getElem_mem hl
   generalize v.data.toList[i]=c at hb htk hmem
   have hlt:=z04g (v.data.toList.take i) (fun b hb=>List.all_eq_true.1 ha b hb) 0
   have hlen:(v.data.toList.take i).length≤9:=by rw [List.length_take,z4b];omega
   have hpow:(10:Nat) ^ (v.data.toList.take i).length≤1000000000:=by
    have:=Nat.pow_le_pow_right (n:=10) (by omega) hlen
    have:(10:Nat) ^ 9=1000000000:=by decide
    omega
   have hdv:dval (v.data.toList.take i)<1000000000:=by rw [zuu];omega
   have hbody:zbg v x1 ((i:Int),((dval (v.data.toList.take i):Nat):Int))=some (if isD c then .inl (((i+1:Nat):Int),((dval (v.data.toList.take (i+1)):Nat):Int)) else .inr (.inl ([],x1.1,3))):=by
    unfold zbg
    rw [if_pos (by simp;omega)]
    simp only [hb,Option.bind_eq_bind,Option.bind_some,znz]
    cases hD:isD c
    ·rfl
    ·simp only [Bool.not_true,Bool.false_eq_true,if_false,if_true]
     simp only [isD,Bool.and_eq_true,decide_eq_true_eq] at hD
     rw [zfz (i:=i) (by omega),w8u (n:=(c.toNat:Int) - 48) (by omega) (by omega),w64 (n:=(c.toNat:Int) - 48) (by omega) (by omega),w64 (n:=10*((dval (v.data.toList.take i):Nat):Int)) (by omega) (by omega),w64 (by omega) (by omega),htk,z04r]
     congr 4
     omega
   by_cases hD:isD c=true
   ·rw [if_pos hD] at hbody
    rw [zce hbody]
    exact ih (i+1) (by omega) (by omega) (by rw [htk,List.all_append,ha];simp [hD])
   ·rw [if_neg hD] at hbody
    rw [z3i hbody,if_neg]
    intro h
    exact hD (List.all_eq_true.1 h c hmem)
 have:=step v.size 0 (by omega) (by omega) (by simp)
 simpa [dval] using this
theorem zyj (s:ByteArray) (hs:s.size≤4194304) (i:Nat) (b:UInt8) (r:Bs) (acc:List z0r) (e:s.data.toList.drop i=b::r) (hi:i<s.size) (hB:isB b=false) (ha:acc.length≤i) :
  z9e s ((i:Int),acc)=match zfd (b::r) with
   | .error c=>some (.inr (.inl ([],(i:Int),c)))
   | .ok w=>some (.inl (((i+w.len:Nat):Int),acc++[tokR ⟨w.kind,(b::r).take w.len,w.num,i⟩])):=by
 have hl:i<s.data.toList.length:=by rw [z4b];omega
 have hb:bidx s (i:Int)=some (b.toNat:Int):=by
  rw [zcf s i hl]
  have:=List.drop_eq_getElem_cons hl
  rw [e] at this;injection this with h1 h2;rw [← h1]
 have hlt:(decide ((i:Int)<(s.size:Int)))=true:=by simp;omega
 have h32:((b.toNat:Int)==32)=(b==32):=by
  rw [Bool.eq_iff_iff,beq_iff_eq,beq_iff_eq]
  constructor
  ·intro h;exact UInt8.toNat_inj.mp (by have:(32:UInt8).toNat=32:=rfl;omega)
  ·rintro rfl;rfl
 have h10:((b.toNat:Int)==10)=(b==10):=by
  rw [Bool.eq_iff_iff,beq_iff_eq,beq_iff_eq]
  constructor
  ·intro h;exact UInt8.toNat_inj.mp (by have:(10:UInt8).toNat=10:=rfl;omega)
  ·rintro rfl;rfl
 have h48:((b.toNat:Int)==48)=(b==48):=by
  rw [Bool.eq_iff_iff,beq_iff_eq,beq_iff_eq]
  constructor
  ·intro h;exact UInt8.toNat_inj.mp (by have:(48:UInt8).toNat=48:=rfl;omega)
  ·rintro rfl;rfl
 have hJ:(if (b==32)=true then some true else some (b==10))=some false:=by
  unfold isB at hB
  rw [Bool.or_eq_false_iff] at hB
  rw [hB.1,hB.2];rfl
 have hrl:=zql (b::r)
 have hlen:(b::r).length=s.size - i:=by rw [← e,List.length_drop,z4b]
 have cut:∀ n,n≤(b::r).length→ssub s (i:Int) ((i+n:Nat):Int)=some (⟨((b::r).take n).toArray⟩:ByteArray):=fun n hn=>by
  rw [zqn (by omega) (by omega)]
  refine congrArg some (zme ?_)
  rw [ext_list,List.drop_take,e]
  simp
 have tsz:∀ n,n≤(b::r).length→((⟨((b::r).take n).toArray⟩:ByteArray)).size=n:=fun n hn=>by
  rw [← z4b];simp only [List.length_take];omega
 have tok:∀ (k:Int) (n m:Nat),n≤(b::r).length→app 40 acc [(z0r.mk k ⟨((b::r).take n).toArray⟩ (m:Int) (i:Int))]=some (acc++[tokR ⟨k,(b::r).take n,m,i⟩]):=fun k n m hn=>by
  rw [z6o (by simp;omega)];rfl
 unfold z9e
 rw [if_pos hlt]
 simp only [hb,Option.bind_eq_bind,Option.bind_some,h32,h10,hJ,Bool.false_eq_true,if_false]
 rw [zcy]
 by_cases hA:isA b=true
 ·have hrun:=z0dg s hs b hA (s.size - i) i rfl (by omega)
  rw [e] at hrun
  rw [hrun]
  simp only [Option.bind_some,Sum.elim_inr,zmj,znz,cut _ hrl]
  cases hL:isL b with
  | true =>
   simp only [if_true,zyi,Option.bind_some,tsz _ hrl]
   by_cases h12:12<runL (b::r)
   ·rw [if_pos h12]
    have:decide ((runL (b::r):Int) > 12)=true:=by simp;omega
    cases decide (((⟨((b::r).take (runL (b::r))).toArray⟩:ByteArray)).data.toList∈resv) <;> simp [this]
   ·rw [if_neg h12]
    have:decide ((runL (b::r):Int) > 12)=false:=by simp;omega
    simp only [this,Bool.false_eq_true,if_false]
    by_cases hm:(b::r).take (runL (b::r))∈resv
    ·have hm':decide (((⟨((b::r).take (runL (b::r))).toArray⟩:ByteArray)).data.toList∈resv)=true:=by simpa using hm
     rw [hm',if_pos hm]
     have:=tok 4 (runL (b::r)) 0 hrl
     simp only [Int.natCast_zero] at this
     simp [this]
    ·have hm':decide (((⟨((b::r).take (runL (b::r))).toArray⟩:ByteArray)).data.toList∈resv)=false:=by simpa using hm
     rw [hm',if_neg hm]
     have:=tok 1 (runL (b::r)) 0 hrl
     simp only [Int.natCast_zero] at this
     simp [this]
  | false =>
   have hD:isD b=true:=by unfold isA at hA;rw [hL] at hA;simpa using hA
   simp only [Bool.false_eq_true,if_false,hD,if_true,Option.bind_some,tsz _ hrl,h48]
   have hpos:=zmh (b:=b) (l:=r) hA
   have hhd:(((b::r).take (runL (b::r))).head?==some 48)=(b==48):=by
    obtain ⟨n,hn⟩:∃ n,runL (b::r)=n+1:=⟨runL (b::r) - 1,by omega⟩
    rw [hn]
    simp only [List.take_succ_cons,List.head?_cons]
    rw [Bool.eq_iff_iff];simp
   have htl:((b::r).take (runL (b::r))).length=runL (b::r):=by rw [List.length_take];omega
   unfold zsc
   rw [hhd,htl]
   by_cases c10:10<runL (b::r)
   ·have:decide ((runL (b::r):Int) > 10)=true:=by simp;omega
    have h2:decide (runL (b::r)≤10)=false:=by simp;omega
    simp [this,h2]
   ·have c10':decide ((runL (b::r):Int) > 10)=false:=by simp;omega
    have h2:decide (runL (b::r)≤10)=true:=by simp;omega
    have h1:decide ((runL (b::r):Int) > 1)=decide (1<runL (b::r)):=decide_eq_decide.mpr (by omega)
    simp only [c10',h2,h1,Bool.false_eq_true,if_false,Bool.true_and]
    have hnum:=z0dh (⟨((b::r).take (runL (b::r))).toArray⟩:ByteArray) ((i:Int),acc) (by rw [tsz _ hrl];omega)
    simp only [List.toList_toArray] at hnum
    cases hz:(decide (1<runL (b::r))&&(b==48)) with
    | true =>
     simp only [Bool.and_eq_true,decide_eq_true_eq] at hz
     simp [hz.1,hz.2]
    | false =>
     have hj:(if decide (1<runL (b::r))=true then some (b==48) else some false)=some false:=by
      cases h3:decide (1<runL (b::r))
      ·rfl
      ·rw [h3,Bool.true_and] at hz;rw [hz];rfl
     rw [hj,hnum]
     simp only [Option.bind_some,Bool.false_eq_true,if_false,Bool.not_false,Bool.true_and]
     cases hall:((b::r).take (runL (b::r))).all isD with
     | false=>simp
     | true =>
      simp only [if_true,Sum.elim_inr,Bool.true_and]
      by_cases hv:dval ((b::r).take (runL (b::r)))≤2147483647
      ·have hv2:decide (((dval ((b::r).take (runL (b::r))):Nat):Int) > 2147483647)=false:=by simp;omega
       have:=tok 2 (runL (b::r)) (dval ((b::r).take (runL (b::r)))) hrl
       simp [hv,hv2,this]
      ·have hv2:decide (((dval ((b::r).take (runL (b::r))):Nat):Int) > 2147483647)=true:=by simp;omega
       simp [hv,hv2]
 ·have hA:isA b=false:=by simpa using hA
  have hLD:=hA
  unfold isA at hLD
  rw [Bool.or_eq_false_iff] at hLD
  rw [z0c6 s b hA i hi]
  have hsg:=z0c5 s hs i hi
  rw [e] at hsg
  have hsl:=zqm (b::r)
  simp only [Option.bind_some,Sum.elim_inr,zmj,znz,hLD.1,hLD.2,Bool.false_eq_true,if_false,hsg]
  have hw:IntKind.i64.wrap ((i:Int)+((zf1 (b::r):Nat):Int))=((i+zf1 (b::r):Nat):Int):=by rw [w64 (by omega) (by omega)];omega
  rw [hw,cut _ hsl]
  by_cases hz:zf1 (b::r)=0
  ·rw [if_pos hz]
   simp [hz]
  ·rw [if_neg hz]
   have:(((zf1 (b::r):Nat):Int)==0)=false:=by simpa using hz
   have ht:=tok 3 (zf1 (b::r)) 0 hsl
   simp only [Int.natCast_zero] at ht
   simp [this,ht]
theorem z04s (s:ByteArray) (hs:s.size≤4194304):∀ (d i:Nat) (acc:List Tok),s.size - i=d→i≤s.size→acc.length≤i →
  (iter (z9e s) ((i:Int),acc.map tokR)>>=Sum.elim (fun r=>some r) (fun j1=>if (decide ((j1.length:Int) > 2000)) then (some ([],(s.size:Int),4)) else (some (j1,0,0))))=some (finR s.size (acc++(lexS (s.data.toList.drop i) i).1,(lexS (s.data.toList.drop i) i).2)):=by
 intro d
 induction d using Nat.strongRecOn with
 | _ d ih =>
 intro i acc hd hi ha
 by_cases hlt:i<s.size
 ·have hl:i<s.data.toList.length:=by rw [z4b];omega
  have e:=List.drop_eq_getElem_cons hl
  have hb:=zcf s i hl
  generalize s.data.toList[i]=b at e hb
  rw [e]
  by_cases hB:isB b=true
  ·have hbody:z9e s ((i:Int),acc.map tokR)=some (.inl (((i+1:Nat):Int),acc.map tokR)):=by
    have h32:((b.toNat:Int)==32)=(b==32):=by
     rw [Bool.eq_iff_iff,beq_iff_eq,beq_iff_eq]
     constructor
     ·intro h;exact UInt8.toNat_inj.mp (by have:(32:UInt8).toNat=32:=rfl;omega)
     ·rintro rfl;rfl
    have h10:((b.toNat:Int)==10)=(b==10):=by
     rw [Bool.eq_iff_iff,beq_iff_eq,beq_iff_eq]
     constructor
     ·intro h;exact UInt8.toNat_inj.mp (by have:(10:UInt8).toNat=10:=rfl;omega)
     ·rintro rfl;rfl
    have hJ:(if (b==32)=true then some true else some (b==10))=some true:=by
     unfold isB at hB
     cases h:(b==32)
     ·rw [h,Bool.false_or] at hB;rw [hB];rfl
     ·rfl
    unfold z9e
    rw [if_pos (by simp;omega)]
    simp only [hb,Option.bind_eq_bind,Option.bind_some,h32,h10,hJ,if_true,zfz (i:=i) (by omega)]
   rw [zlh _ _ hB,zce hbody]
   exact ih (s.size - (i+1)) (by omega) (i+1) acc rfl (by omega) (by omega)
  ·have hB':isB b=false:=by simpa using hB
   have hbody:=zyj s hs i b _ (acc.map tokR) e hlt hB' (by simpa using ha)
   cases hw1:zfd (b::s.data.toList.drop (i+1)) with
   | error c =>
    rw [hw1] at hbody
    rw [z3i hbody,zpg hB' hw1]
    rfl
   | ok w =>
    rw [hw1] at hbody
    have hlen:=zkn hw1
    have hlen2:w.len≤s.size - i:=by
     have:=hlen.2
     rw [← e,List.length_drop,z4b] at this
     exact this
    have hd2:(b::s.data.toList.drop (i+1)).drop w.len=s.data.toList.drop (i+w.len):=by
     rw [← e,List.drop_drop]
    have IH:=ih (s.size - (i+w.len)) (by omega) (i+w.len) (acc++[(⟨w.kind,(b::s.data.toList.drop (i+1)).take w.len,w.num,i⟩:Tok)]) rfl (by omega) (by simp;omega)
    rw [zce hbody,zue hB' hw1,hd2]
    simp only [List.map_append,List.map_cons,List.map_nil,List.append_assoc,List.cons_append,List.nil_append] at IH
    exact IH
 ·have hnil:s.data.toList.drop i=[]:=List.drop_of_length_le (by rw [z4b];omega)
  rw [hnil,zq9]
  rw [z3i (r:=.inr (acc.map tokR)) (by unfold z9e;rw [if_neg (by simp;omega)])]
  simp only [List.append_nil,finR,told,List.length_map,Option.bind_eq_bind,Option.bind_some,Sum.elim_inr]
  by_cases h2:2000<acc.length
  ·rw [if_pos (by simp;omega),if_pos h2];rfl
  ·rw [if_neg (by simp;omega),if_neg h2]
theorem z0bu (s:ByteArray) (hs:s.size≤4194304):zh9 s=some (finR s.size (lexS s.data.toList 0)):=by
 have:=z04s s hs s.size 0 [] (by omega) (by omega) (by simp)
 unfold zh9
 rw [← show (iter (z9e s) (0,[])>>=Sum.elim (fun r=>some r) (fun j1=>if (decide ((j1.length:Int) > 2000)) then (some ([],(s.size:Int),4)) else (some (j1,0,0))))=some (finR s.size (lexS s.data.toList 0)) by simpa using this]
theorem zdv (s:ByteArray) (hs:s.size≤4194304):z74 s=some (z3s s):=by
 unfold z74 z3s
 rw [z0bu s hs]
 simp only [Option.bind_eq_bind,Option.bind_some,finR,finT]
 generalize told s.size (lexS s.data.toList 0)=v
 obtain ⟨l,p,e⟩:=v
 by_cases he:e=0
 ·subst he
  match l with
  | []=>simp
  | [t] =>
   have:∀ q:z0r,idx [q] 0=some q:=fun _=>rfl
   by_cases hk:t.kind=1
   ·simp [this,hk,tokR,tokT]
   ·have hk':(t.kind==1)=false:=by simpa using hk
    simp [this,hk,hk',tokR,tokT]
  | t::t'::r =>
   have:¬ ((r.length:Int)+1+1=1):=by omega
   have h2:((r.length:Int)+1+1==1)=false:=by simpa using this
   simp [this,h2]
 ·have he':(e==0)=false:=by simpa using he
  simp [he']
theorem zos (k:Int):zg8 k=some (z88 k):=by unfold zg8 z88;by_cases h:k≥4 <;> simp [h]
theorem zig (n:Int):zbh n=some (zb9 n):=by unfold zbh zb9;by_cases h:n≥0 <;> simp [h]
theorem bc (b:Bool):b=false∨b=true:=by cases b <;> simp
theorem zc8 {α:Type} (x:Option α):(x.bind fun v=>some v)=x:=by cases x <;> rfl
def gE:z04→Bool
 | ⟨k,n,s,[]⟩=>if k==1 then zb9 n else k==2&&z3s s
 | ⟨k,_,_,[x]⟩=>k==3&&gE x
 | ⟨k,_,_,[l,r]⟩=>z88 k&&(gE l&&gE r)
 | ⟨_,_,_,_::_::_::_⟩=>false
theorem zv1 (m:Bool) (f:Int→Wr) (b:Bool) (p:Int) (h:∀ q,(f q).bad=b):(inP m f p).bad=b:=by
 unfold inP
 split <;> simp [wW,wD,h]
theorem zpi:∀ (e:z04) (p:Int),(sE (cE e) p).bad=!gE e
 | ⟨k,n,s,[]⟩,p=>by
  simp only [cE,cEs,sE,gE,zdo]
  by_cases h1:k=1
  ·subst h1;simp [wM,wI]
  ·by_cases h2:k=2
   ·subst h2;simp [wM,wN]
   ·simp [wM,wN,h1,h2]
 | ⟨k,n,s,[x]⟩,p=>by
  have hx:=zpi x
  simp only [cE,cEs,sE,gE]
  by_cases h3:k=3
  ·subst h3
   have:=zv1 (z88 (cE x).Kind) (sE (cE x)) (!gE x) (p+1) hx
   simp [wW,wD,this]
  ·simp [zdo,wM,h3]
 | ⟨k,n,s,[l,r]⟩,p=>by
  have hl:=zpi l
  have hr:=zpi r
  simp only [cE,cEs,sE,gE]
  cases hk:z88 k
  ·simp [zdo,wM]
  ·have h1:=zv1 (!sumK k&&sumK (cE l).Kind) (sE (cE l)) (!gE l) p hl
   have h2:=zv1 (sumK (cE r).Kind || (!sumK k&&z88 (cE r).Kind)) (sE (cE r)) (!gE r) p hr
   simp [wW,h1,h2]
 | ⟨k,n,s,a::b::c::l⟩,p=>by
  simp only [cE,cEs,sE,gE,zdo]
  have:(((cE a::cE b::cE c::cEs l).length:Int)==0)=false:=by simp only [List.length_cons];simp;omega
  simp only [Wr.bad_app,wM,this,Bool.not_false,Bool.true_or]
theorem zqr:∀ e:z04,okE (cE e)→∀ n,Sn n (szE (cE e)) (z6d n e) (gE e)
 | ⟨k,m,s,[]⟩,ho,n=>by
  simp only [cE,cEs,okE] at ho
  cases n with
  | zero=>exact .inr ⟨rfl,zan _⟩
  | succ n =>
   refine .inl ?_
   simp only [z6d,zig,zos,zdv s ho.2.1,Option.bind_eq_bind,Option.bind_some,gE]
   by_cases h1:k=1
   ·subst h1;cases zb9 m <;> simp
   ·by_cases h2:k=2
    ·subst h2;cases z3s s <;> simp
    ·by_cases h3:k=3
     ·subst h3;simp
     ·cases hp:z88 k <;> simp [h1,h2,h3]
 | ⟨k,m,s,[x]⟩,ho,n=>by
  simp only [cE,cEs,okE,okEs] at ho
  have hx:=zqr x ho.2.2.1
  cases n with
  | zero=>exact .inr ⟨rfl,zan _⟩
  | succ n =>
   have e1:((([x]:List z04).length:Int)==0)=false:=rfl
   have e2:((([x]:List z04).length:Int)==1)=true:=rfl
   have e3:((([x]:List z04).length:Int)==2)=false:=rfl
   have e4:idx [x] 0=some x:=rfl
   by_cases h3:k=3
   ·subst h3
    simp only [z6d,gE]
    rw [if_neg (by decide),if_neg (by decide),if_pos (by decide),e2,e4]
    simp only [if_true,Option.bind_eq_bind,Option.bind_some,zc8]
    refine ((hx n).up.mono ?_)
    simp only [cE,cEs,szE,szEs];omega
   ·refine .inl ?_
    simp only [z6d,zig,zos,zdv s ho.2.1,Option.bind_eq_bind,Option.bind_some,gE,e1,e2,e3]
    by_cases h1:k=1
    ·subst h1;cases zb9 m <;> simp
    ·by_cases h2:k=2
     ·subst h2;cases z3s s <;> simp
     ·cases hp:z88 k <;> simp [h1,h2,h3]
 | ⟨k,m,s,[l,r]⟩,ho,n=>by
  simp only [cE,cEs,okE,okEs] at ho
  have hl:=zqr l ho.2.2.1
  have hr:=zqr r ho.2.2.2.1
  cases n with
  | zero=>exact .inr ⟨rfl,zan _⟩
  | succ n =>
   have e1:((([l,r]:List z04).length:Int)==0)=false:=rfl
   have e2:((([l,r]:List z04).length:Int)==1)=false:=rfl
   have e3:((([l,r]:List z04).length:Int)==2)=true:=rfl
   have e4:idx [l,r] 0=some l:=rfl
   have e5:idx [l,r] 1=some r:=rfl
   cases hp:z88 k with
   | true =>
    have h1:k≠1:=by rintro rfl;cases hp
    have h2:k≠2:=by rintro rfl;cases hp
    have h3:k≠3:=by rintro rfl;cases hp
    simp only [z6d,gE]
    rw [if_neg (by simpa using h1),if_neg (by simpa using h2),if_neg (by simpa using h3),zos,hp,e3,e4]
    simp only [if_true,Option.bind_eq_bind,Option.bind_some,zc8,e5,Bool.true_and]
    have t:Sn n (szE (cE ⟨k,m,s,[l,r]⟩) - 1) ((z6d n l).bind fun v=>if v then (z6d n r) else some false) (gE l&&gE r):=by
     refine Sn.bind (f:=fun v=>if v then (z6d n r) else some false) ((hl n).mono (show szE (cE l)≤szE (cE ⟨k,m,s,[l,r]⟩) - 1 by simp only [cE,cEs,szE,szEs];omega)) ?_
     cases gE l
     ·exact .inl rfl
     ·simp only [if_true,Bool.true_and]
      exact (hr n).mono (show szE (cE r)≤szE (cE ⟨k,m,s,[l,r]⟩) - 1 by simp only [cE,cEs,szE,szEs];omega)
    exact t.up.mono (by have:=zan (cE ⟨k,m,s,[l,r]⟩);omega)
   | false =>
    refine .inl ?_
    simp only [z6d,zig,zos,zdv s ho.2.1,Option.bind_eq_bind,Option.bind_some,gE,e1,e2,e3,hp]
    by_cases h1:k=1
    ·subst h1;cases zb9 m <;> simp
    ·by_cases h2:k=2
     ·subst h2;cases z3s s <;> simp
     ·simp [h1,h2]
 | ⟨k,m,s,a::b::c::l⟩,ho,n=>by
  simp only [cE,cEs,okE] at ho
  cases n with
  | zero=>exact .inr ⟨rfl,zan _⟩
  | succ n =>
   have e1:(((a::b::c::l).length:Int)==0)=false:=by simp only [List.length_cons];simp;omega
   have e2:(((a::b::c::l).length:Int)==1)=false:=by simp only [List.length_cons];simp;omega
   have e3:(((a::b::c::l).length:Int)==2)=false:=by simp only [List.length_cons];simp;omega
   refine .inl ?_
   simp only [z6d,zig,zos,zdv s ho.2.1,Option.bind_eq_bind,Option.bind_some,gE,e1,e2,e3]
   by_cases h1:k=1
   ·subst h1;cases zb9 m <;> simp
   ·by_cases h2:k=2
    ·subst h2;cases z3s s <;> simp
    ·by_cases h3:k=3
     ·subst h3;simp
     ·cases hp:z88 k <;> simp [h1,h2,h3]
theorem z01s {e:z04} (h:okE (cE e)):zi7 e=some (gE e):=Sn.unf fun n=>zqr e h n
def gC (c:z1k):Bool:=opOk c.Op&&(gE c.L&&gE c.R)
theorem zwq (c:z1k) (p:Int):(sC (cC c) p).bad=!gC c:=by
 unfold sC gC cC
 simp only [Wr.bad_app,zpi]
 cases opOk c.Op <;> simp [wW,wM]
theorem z0c7 {c:z1k} (h:okC (cC c)):zg9 c=some (gC c):=by
 unfold zg9 gC opOk
 rw [z01s (e:=c.L) h.1,z01s (e:=c.R) h.2]
 by_cases h1:c.Op≥1
 ·by_cases h2:c.Op≤6
  ·cases gE c.L <;> simp [h1,h2]
  ·simp [h1,h2]
 ·simp [h1]
mutual
def gS:z03→Bool
 | .mk k n t e c b l a =>
  if k==1 then z3s n&&gE e
  else if k==2 then gC c&&(gL b&&gL l)
  else if k==3 then gC c&&gL b
  else if k==4 then z3s n&&(z3s t&&gE e)
  else if k==5 then (z3s n&&!a.isEmpty)&&gA a
  else if k==6 then gC c
  else if k==7 then z3s n
  else false
def gL:List z03→Bool
 | []=>true
 | s::r=>gS s&&gL r
def gA:List z2k→Bool
 | []=>true
 | .mk t v b::r=>(z3s t&&(z3s v&&gL b))&&gA r
end
def gAr (x:z2k):Bool:=z3s x.Tag&&(z3s x.Var&&gL x.Body)
theorem zwr:∀ l,gL l=l.all gS
 | []=>by simp only [gL];rfl
 | s::r=>by simp only [gL,List.all_cons,zwr r]
theorem zws:∀ l,gA l=l.all gAr
 | []=>by simp only [gA];rfl
 | .mk t v b::r=>by simp only [gA,List.all_cons,zws r];rfl
theorem zv2 {f:Int→Wr} {b:Bool} (p:Int) (h:∀ q,(f q).bad=b):(inB f p).bad=b:=by unfold inB;simp [wW,wD,h]
mutual
theorem z0c8:∀ (s:z03) (b p:Int),(sS (cS s) b p).bad=!gS s
 | .mk k n t e c bo el ar,b,p=>by
  have hb:=fun q=>zso bo q p
  have he:=fun q=>zso el q p
  have ha:=z05x ar b p
  have hB:=zv2 (f:=fun q=>sL (cL bo) q p) b hb
  have hE:=zv2 (f:=fun q=>sL (cL el) q p) b he
  simp only [cS,sS,gS]
  split
  ·simp [wW,wN,zpi]
  ·split
   ·cases hel:el with
    | nil =>
     subst hel
     simp [wW,zwq,hB,cL,gL,Wr.nil]
    | cons x r =>
     subst hel
     have:(cL (x::r)).isEmpty=false:=by simp only [cL];rfl
     simp [wW,zwq,hB,hE,this,Bool.not_and]
   ·split
    ·simp [wW,zwq,hB]
    ·split
     ·simp [wW,wN,zpi]
     ·split
      ·have:(cA ar).isEmpty=ar.isEmpty:=by cases ar with
        | nil=>simp only [cA];rfl
        | cons x r=>cases x;simp only [cA];rfl
       simp [wW,wN,wM,ha,this,Bool.or_assoc]
      ·split
       ·simp [wW,zwq]
       ·split
        ·simp [wW,wN]
        ·simp [wM]
theorem zso:∀ (l:List z03) (b p:Int),(sL (cL l) b p).bad=!gL l
 | [],b,p=>by simp only [cL,sL,gL];rfl
 | s::r,b,p=>by
  have h1:=z0c8 s b p
  have h2:=zso r b p
  simp only [cL,sL,gL,Wr.bad_app,h1,h2,Bool.not_and]
theorem z05x:∀ (l:List z2k) (b p:Int),(sA (cA l) b p).bad=!gA l
 | [],b,p=>by simp only [cA,sA,gA];rfl
 | .mk t v bo::r,b,p=>by
  have h1:=fun q=>zso bo q p
  have h2:=z05x r b p
  have hB:=zv2 (f:=fun q=>sL (cL bo) q p) b h1
  simp only [cA,sA,gA]
  simp [wW,wN,hB,h2,Bool.or_assoc]
end
theorem zv3 {F:List z03→Option Bool} {v1:z03} {n H:Nat} (hlen:v1.Arms.length≤400000000000) (hF:∀ x∈v1.Arms,Sn n H (F x.Body) (gL x.Body)) (hN:∀ x∈v1.Arms,x.Tag.size≤4194304∧x.Var.size≤4194304) :
  ∀ (m:List z2k) (i:Nat) (ok:Bool),v1.Arms.drop i=m→i≤v1.Arms.length→Sn n H (iter (z9s F v1) (ok,(i:Int))) (.inr (ok&&m.all gAr)):=by
 intro m
 induction m with
 | nil =>
  intro i ok hd hi
  have:i=v1.Arms.length:=by have:=List.drop_eq_nil_iff.1 hd;omega
  subst this
  exact .inl (by rw [z3i (r:=.inr ok) (by unfold z9s;rw [if_neg (by simp)])];simp)
 | cons x m ih =>
  intro i ok hd hi
  have hlt:i<v1.Arms.length:=by
   refine Nat.lt_of_not_le fun h=>?_
   rw [List.drop_of_length_le h] at hd;cases hd
  rw [List.drop_eq_getElem_cons hlt] at hd
  injection hd with h1 h2
  have hi2:idx v1.Arms (i:Int)=some x:=by rw [zgs hlt,h1]
  have hm:x∈v1.Arms:=by rw [← h1];exact List.getElem_mem hlt
  have h3:Sn n H (z9s F v1 (ok,(i:Int))) (.inl (ok&&gAr x,((i+1:Nat):Int))):=by
   unfold z9s
   rw [if_pos (by simpa using hlt)]
   simp only [hi2,Option.bind_eq_bind,Option.bind_some,zdv _ (hN x hm).1,zdv _ (hN x hm).2,zfz (i:=i) (by omega),zc8,gAr]
   cases ok with
   | false=>exact .inl rfl
   | true =>
    simp only [if_true,Bool.true_and]
    cases z3s x.Tag with
    | false=>exact .inl rfl
    | true =>
     simp only [if_true,Bool.true_and]
     cases z3s x.Var with
     | false=>exact .inl rfl
     | true =>
      simp only [if_true,Bool.true_and]
      exact Sn.bind (f:=_) (hF x hm) (.inl rfl)
  have h4:=ih (i+1) (ok&&gAr x) h2 hlt
  rw [z8o]
  refine Sn.bind (f:=_) h3 ?_
  simp only [List.all_cons,← Bool.and_assoc]
  exact h4
theorem z04t (k:Int) (nm tg:ByteArray) (e:z04) (c:z1k) (bo el:List z03) (ar:List z2k):szS (cS (.mk k nm tg e c bo el ar))=4+szE (cE e)+szC (cC c)+szL (cL bo)+szL (cL el)+szA (cA ar):=by simp only [cS,szS]
theorem zqs {l:List z03} (h:okL (cL l)) {s:z03} (hs:s∈l):okS (cS s)∧szS (cS s)+1≤szL (cL l):=by
 refine z01k h (cS s) ?_
 rw [zsl];exact List.mem_map.2 ⟨s,hs,rfl⟩
theorem zku:∀ {l:List z2k},okA (cA l)→∀ x∈l,x.Tag.size≤4194304∧x.Var.size≤4194304∧okL (cL x.Body)∧szL (cL x.Body)≤szA (cA l)
 | [],_,s,hs=>by cases hs
 | .mk t v b::r,ho,s,hs=>by
  simp only [cA,okA] at ho
  simp only [cA,szA]
  rcases List.mem_cons.1 hs with rfl|hs
  ·exact ⟨ho.1,ho.2.1,ho.2.2.1,by show szL (cL b)≤_;omega⟩
  ·obtain ⟨h1,h2,h3,h4⟩:=zku ho.2.2.2 s hs
   exact ⟨h1,h2,h3,by omega⟩
theorem z04u:∀ (N:Nat) (l:List z03),szL (cL l)≤N→N≤400000000000→okL (cL l)→∀ n,Sn n (szL (cL l)) (z8a n l) (gL l):=by
 intro N
 induction N with
 | zero=>intro l hl;have:=z6k (cL l);omega
 | succ N ih =>
  intro l hl hN ho n
  cases n with
  | zero=>exact .inr ⟨rfl,z6k _⟩
  | succ n =>
   have hll:=zwp l
   have hp:=z6k (cL l)
   have h:=zqa (n:=n) (H:=szL (cL l) - 1) (body:=zbj (z8a n) l) l gS false (by omega)
    (fun i x h0 hx hm hlt hw=>by
     obtain ⟨hoS,hz⟩:=zqs ho hm
     obtain ⟨k,nm,tg,e,c,bo,el,ar⟩:=x
     rw [z04t] at hz
     simp only [cS,okS] at hoS
     obtain ⟨on,ot,oe,oc,ob,oel,oar⟩:=hoS
     have p1:=z6k (cL bo)
     have p2:=z6k (cL el)
     have p3:=zju (cA ar)
     have fb:=(ih bo (by omega) (by omega) ob n).mono (show szL (cL bo)≤szL (cL l) - 1 by omega)
     have fe:=(ih el (by omega) (by omega) oel n).mono (show szL (cL el)≤szL (cL l) - 1 by omega)
     unfold zbj
     rw [if_pos (by simpa using hlt),hx]
     simp only [Option.bind_eq_bind,Option.bind_some,hw]
     dsimp only [z03.Kind,z03.Name,z03.Tag,z03.E,z03.C,z03.Body,z03.Else]
     simp only [zdv _ on,zdv _ ot,z01s oe,z0c7 oc,Option.bind_some,gS]
     by_cases h1:k=1
     ·subst h1;refine .inl ?_;simp only [Int.reduceBEq,if_true,Bool.false_eq_true,if_false];cases z3s nm <;> cases gE e <;> rfl
     by_cases h2:k=2
     ·subst h2
      simp only [show ((2:Int)==1)=false from rfl,show ((2:Int)==2)=true from rfl,if_true,Bool.false_eq_true,if_false]
      cases gC c with
      | false=>exact .inl rfl
      | true =>
       simp only [if_true,Bool.true_and,Option.bind_assoc]
       refine Sn.bind (f:=_) fb ?_
       cases gL bo with
       | false=>exact .inl rfl
       | true =>
        simp only [if_true,Bool.true_and,Option.bind_assoc]
        refine Sn.bind (f:=_) fe ?_
        cases gL el <;> exact .inl rfl
     by_cases h3:k=3
     ·subst h3
      simp only [show ((3:Int)==1)=false from rfl,show ((3:Int)==2)=false from rfl,show ((3:Int)==3)=true from rfl,if_true,Bool.false_eq_true,if_false]
      cases gC c with
      | false=>exact .inl rfl
      | true =>
       simp only [if_true,Bool.true_and,Option.bind_assoc]
       refine Sn.bind (f:=_) fb ?_
       cases gL bo <;> exact .inl rfl
     by_cases h4:k=4
     ·subst h4;refine .inl ?_;simp only [Int.reduceBEq,if_true,Bool.false_eq_true,if_false];cases z3s nm <;> cases z3s tg <;> cases gE e <;> rfl
     by_cases h5:k=5
     ·subst h5
      simp only [show ((5:Int)==1)=false from rfl,show ((5:Int)==2)=false from rfl,show ((5:Int)==3)=false from rfl,show ((5:Int)==4)=false from rfl,show ((5:Int)==5)=true from rfl,if_true,Bool.false_eq_true,if_false]
      have hal:=zsn ar
      have hlen:(decide (((ar.length:Nat):Int) > 0))=!ar.isEmpty:=by cases ar <;> simp
      have key:=fun ok=>zv3 (F:=z8a n) (v1:=.mk 5 nm tg e c bo el ar) (n:=n) (H:=szL (cL l) - 1) (by show ar.length≤_;omega)
       (fun y hy=>by obtain ⟨_,_,o3,z3⟩:=zku oar y hy;exact (ih y.Body (by omega) (by omega) o3 n).mono (by omega))
       (fun y hy=>by obtain ⟨o1,o2,_,_⟩:=zku oar y hy;exact ⟨o1,o2⟩) ar 0 ok rfl (by omega)
      have hj:((if z3s nm=true then some (decide ((((z03.mk 5 nm tg e c bo el ar).Arms.length:Nat):Int) > 0)) else some false):Option Bool)=some (z3s nm&&!ar.isEmpty):=by
       show ((if z3s nm=true then some (decide (((ar.length:Nat):Int) > 0)) else some false):Option Bool)=_
       rw [hlen];cases z3s nm <;> rfl
      rw [hj]
      simp only [Option.bind_some,Option.bind_assoc]
      refine Sn.bind (f:=_) (key (z3s nm&&!ar.isEmpty)) ?_
      rw [zws]
      simp only [Sum.elim_inr]
      cases ((z3s nm&&!ar.isEmpty)&&ar.all gAr) <;> exact .inl rfl
     by_cases h6:k=6
     ·subst h6;refine .inl ?_;simp only [Int.reduceBEq,if_true,Bool.false_eq_true,if_false];cases gC c <;> rfl
     by_cases h7:k=7
     ·subst h7;refine .inl ?_;simp only [Int.reduceBEq,if_true,Bool.false_eq_true,if_false];cases z3s nm <;> rfl
     ·refine .inl ?_
      simp [h1,h2,h3,h4,h5,h6,h7])
    (by unfold zbj;rw [if_neg (by simp)])
   rw [← zwr] at h
   have t2:=(Sn.bind (f:=Sum.elim (fun r=>some r) (fun j1=>some true)) h (t:=gL l) (.inl (by cases gL l <;> rfl))).up
   exact t2.mono (by omega)
theorem z090 {l:List z03} (ho:okL (cL l)) (h:szL (cL l)≤400000000000):zn4 l=some (gL l):=Sn.unf fun n=>z04u _ l (Nat.le_refl _) h ho n
def gCh (c:z3l):Bool:=z3s c.Name&&(z3s c.From&&(z3s c.To&&(kindOk c.Kind&&(zb9 c.Size&&(!c.Tags.isEmpty&&c.Tags.all z3s)))))
def gMo (m:z6c):Bool:=zb9 m.From&&(zb9 m.To&&z3s m.Tag)
def gR (r:z4t):Bool:=z3s r.Chan&&r.Moves.all gMo
def gP (p:z31):Bool:=z3s p.Name&&(gL p.Body&&p.Vars.all z3s)
def gSys (s:z0i):Bool:=s.Chans.all gCh&&(s.Rules.all gR&&s.Procs.all gP)
theorem zey {β:Type} {g:Nat→β→Wr} {p:β→Bool}:∀ {l:List β} {i:Nat},(∀ i,∀ x∈l,(g i x).bad=!p x)→(zbb g i l).bad=!l.all p
 | [],i,h=>rfl
 | x::r,i,h=>by simp only [zbb,Wr.bad_app,h i x List.mem_cons_self,zey (p:=p) fun i y hy=>h i y (List.mem_cons_of_mem _ hy),List.all_cons,Bool.not_and]
theorem z04v (s:z0i):(sSys (cSys s)).bad=!gSys s:=by
 unfold sSys gSys
 simp only [cSys,Wr.bad_app,Bool.not_and]
 rw [zey (p:=fun c=>(!(sCh c).bad)) (fun i x _=>by simp),zey (p:=fun c=>(!(sR c).bad)) (fun i x _=>by simp),zey (p:=fun c=>(!(sP c).bad)) (fun i x _=>by simp)]
 simp only [List.all_map]
 have e1:(fun c=>!(sCh c).bad) ∘ cCh=gCh:=by
  funext c
  have ht:=zey (g:=wTag) (p:=z3s) (l:=c.Tags) (i:=0) (fun i x _=>by unfold wTag;split <;> simp [wN,wW])
  simp only [Function.comp,sCh,cCh,Wr.bad_app,ht,gCh]
  rcases bc (kindOk c.Kind) with hk|hk
  ·simp [hk,wW,wN,wI,wM]
  ·simp [hk,wW,wN,wI,wM]
   cases z3s c.Name <;> cases zb9 c.Size <;> cases z3s c.From <;> cases z3s c.To <;> rfl
 have e2:(fun c=>!(sR c).bad) ∘ cRu=gR:=by
  funext r
  have ht:=zey (g:=zqp) (p:=fun m=>zb9 m.From&&(zb9 m.To&&z3s m.Tag)) (l:=r.Moves.map cMo) (i:=0) (fun i x _=>by unfold zqp;simp [wI,wN,wW];cases zb9 x.From <;> cases zb9 x.To <;> cases z3s x.Tag <;> rfl)
  simp only [Function.comp,sR,cRu,Wr.bad_app,ht,gR,List.all_map]
  have:((fun m:z4j=>zb9 m.From&&(zb9 m.To&&z3s m.Tag)) ∘ cMo)=gMo:=rfl
  rw [this]
  simp [wW,wN]
 have e3:(fun c=>!(sP c).bad) ∘ cPr=gP:=by
  funext p
  have ht:=zey (g:=wVar) (p:=z3s) (l:=p.Vars) (i:=0) (fun i x _=>by simp [wVar,wN,wW])
  simp only [Function.comp,sP,cPr,Wr.bad_app,ht,gP,zso]
  simp [wW,wN]
  cases z3s p.Name <;> cases gL p.Body <;> cases p.Vars.all z3s <;> rfl
 rw [e1,e2,e3]
theorem z0c9 {s:z0i} (ho:zye (cSys s)) {c:z3l} (h:c∈s.Chans):okCh (cCh c):=ho.1 _ (List.mem_map.2 ⟨c,h,rfl⟩)
theorem z0di {s:z0i} (ho:zye (cSys s)) {c:z4t} (h:c∈s.Rules):okR (cRu c):=ho.2.1 _ (List.mem_map.2 ⟨c,h,rfl⟩)
theorem z091 {s:z0i} (ho:zye (cSys s)) {c:z31} (h:c∈s.Procs):okP (cPr c):=ho.2.2 _ (List.mem_map.2 ⟨c,h,rfl⟩)
theorem z0dj {s:z0i} {c:z3l} (h:c∈s.Chans):3+c.Tags.length≤zba (cSys s):=by
 have:=zd5 (c:=szCh) (List.mem_map.2 ⟨c,h,rfl⟩:cCh c∈(cSys s).Chans)
 have e:szCh (cCh c)=3+c.Tags.length:=rfl
 unfold zba;simp only [cSys] at this ⊢;omega
theorem z0dk {s:z0i} {c:z4t} (h:c∈s.Rules):1+c.Moves.length≤zba (cSys s):=by
 have:=zd5 (c:=szR) (List.mem_map.2 ⟨c,h,rfl⟩:cRu c∈(cSys s).Rules)
 have e:szR (cRu c)=1+(c.Moves.map cMo).length:=rfl
 rw [List.length_map] at e
 unfold zba;simp only [cSys] at this ⊢;omega
theorem z092 {s:z0i} {c:z31} (h:c∈s.Procs):1+c.Vars.length+szL (cL c.Body)≤zba (cSys s):=by
 have:=zd5 (c:=szP) (List.mem_map.2 ⟨c,h,rfl⟩:cPr c∈(cSys s).Procs)
 have e:szP (cPr c)=1+c.Vars.length+szL (cL c.Body):=rfl
 unfold zba;simp only [cSys] at this ⊢;omega
theorem lens (s:z0i):s.Chans.length≤zba (cSys s)∧s.Rules.length≤zba (cSys s)∧s.Procs.length≤zba (cSys s):=by
 have n1:=zd4 (c:=szCh) (fun x=>by unfold szCh;omega) (cSys s).Chans
 have n2:=zd4 (c:=szR) (fun x=>by unfold szR;omega) (cSys s).Rules
 have n3:=zd4 (c:=szP) (fun x=>by unfold szP;omega) (cSys s).Procs
 simp only [cSys,List.length_map] at n1 n2 n3
 unfold zba;simp only [cSys];omega
theorem z093 {s:z0i} (ho:zye (cSys s)) (hs:zba (cSys s)≤400000000000):zhb s=some (gSys s):=by
 obtain ⟨l1,l2,l3⟩:=lens s
 unfold zhb
 rw [zau (body:=zbl s) s.Chans gCh false (by omega) (fun i x h0 h1 hm hlt hw=>by
  obtain ⟨o1,o2,o3,o4,o5⟩:=z0c9 ho hm
  have hz:=z0dj hm
  have ht:=zau (body:=zbk x) x.Tags z3s false (by omega) (fun i y g0 g1 gm glt gw=>by
   unfold zbk
   rw [if_pos (by simpa using glt),g1]
   simp only [Option.bind_eq_bind,Option.bind_some,zdv y (o5 y gm),gw]
   rcases bc (z3s y) with b0|b0 <;> simp [b0]) (by unfold zbk;rw [if_neg (by simp)])
  unfold zbl
  rw [if_pos (by simpa using hlt),h1]
  simp only [cCh] at o1 o2 o3
  simp only [Option.bind_eq_bind,Option.bind_some,zdv _ o1,zdv _ o2,zdv _ o3,zig,hw,ht,gCh,kindOk]
  rcases bc (z3s x.Name) with b1|b1
  ·simp [b1]
  rcases bc (z3s x.From) with b2|b2
  ·simp [b1,b2]
  rcases bc (z3s x.To) with b3|b3
  ·simp [b1,b2,b3]
  by_cases k1:x.Kind<0
  ·have:¬ (x.Kind≥0):=by omega
   simp [b1,b2,b3,k1,this]
  by_cases k2:x.Kind > 2
  ·have h3:¬ (x.Kind<3):=by omega
   simp [b1,b2,b3,k1,k2,h3]
  have h3:x.Kind≥0:=by omega
  have h4:x.Kind<3:=by omega
  rcases bc (zb9 x.Size) with b4|b4
  ·simp [b1,b2,b3,b4,k1,k2,h3,h4]
  have e:(((x.Tags.length:Nat):Int)==0)=x.Tags.isEmpty:=by cases x.Tags <;> simp;omega
  rcases bc x.Tags.isEmpty with hte|hte
  ·rcases bc (x.Tags.all z3s) with hta|hta <;> simp [b1,b2,b3,b4,k1,k2,h3,h4,e,hte,hta]
  ·simp [b1,b2,b3,b4,k1,k2,h3,h4,e,hte]) (by unfold zbl;rw [if_neg (by simp)])]
 simp only [Option.bind_eq_bind,Option.bind_some,gSys]
 rcases bc (s.Chans.all gCh) with hc|hc
 ·rw [hc];rfl
 rw [hc]
 simp only [if_true,Sum.elim_inr,Bool.true_and]
 rw [zau (body:=zbn s) s.Rules gR false (by omega) (fun i x h0 h1 hm hlt hw=>by
  obtain ⟨o1,o2⟩:=z0di ho hm
  have hz:=z0dk hm
  have ht:=zau (body:=zbm s (i:Int)) x.Moves gMo false (by omega) (fun j y g0 g1 gm glt gw=>by
   have o3:=o2 (cMo y) (List.mem_map.2 ⟨y,gm,rfl⟩)
   have o4:y.Tag.size≤4194304:=o3.2.1
   unfold zbm
   rw [h1]
   simp only [Option.bind_eq_bind,Option.bind_some]
   rw [if_pos (by simpa using glt),g1]
   simp only [Option.bind_some,zdv _ o4,zig,gw,gMo]
   rcases bc (zb9 y.From) with b1|b1
   ·simp [b1]
   rcases bc (zb9 y.To) with b2|b2
   ·simp [b1,b2]
   rcases bc (z3s y.Tag) with b3|b3 <;> simp [b1,b2,b3]) (by unfold zbm;rw [h1];simp only [Option.bind_eq_bind,Option.bind_some];rw [if_neg (by simp)])
  unfold zbn
  have o1':x.Chan.size≤4194304:=o1
  rw [if_pos (by simpa using hlt),h1]
  simp only [Option.bind_eq_bind,Option.bind_some,zdv _ o1',hw,ht,gR]
  rcases bc (z3s x.Chan) with b1|b1
  ·simp [b1]
  rcases bc (x.Moves.all gMo) with b2|b2 <;> simp [b1,b2]) (by unfold zbn;rw [if_neg (by simp)])]
 simp only [Option.bind_some]
 rcases bc (s.Rules.all gR) with hr|hr
 ·rw [hr];rfl
 rw [hr]
 simp only [if_true,Sum.elim_inr,Bool.true_and]
 rw [zau (body:=zbp s) s.Procs gP false (by omega) (fun i x h0 h1 hm hlt hw=>by
  obtain ⟨o1,o2,o3⟩:=z091 ho hm
  have hz:=z092 hm
  have ht:=zau (body:=zbo x) x.Vars z3s false (by omega) (fun i y g0 g1 gm glt gw=>by
   unfold zbo
   rw [if_pos (by simpa using glt),g1]
   simp only [Option.bind_eq_bind,Option.bind_some,zdv y (o2 y gm),gw]
   rcases bc (z3s y) with b0|b0 <;> simp [b0]) (by unfold zbo;rw [if_neg (by simp)])
  unfold zbp
  have o1':x.Name.size≤4194304:=o1
  have o3':okL (cL x.Body):=o3
  rw [if_pos (by simpa using hlt),h1]
  simp only [Option.bind_eq_bind,Option.bind_some,zdv _ o1',z090 o3' (by omega),hw,ht,gP]
  rcases bc (z3s x.Name) with b1|b1
  ·simp [b1]
  rcases bc (gL x.Body) with b2|b2
  ·simp [b1,b2]
  rcases bc (x.Vars.all z3s) with b3|b3 <;> simp [b1,b2,b3]) (by unfold zbp;rw [if_neg (by simp)])]
 simp only [Option.bind_some]
 rcases bc (s.Procs.all gP) with hp|hp <;> rw [hp] <;> rfl
def zqt (k q:Int):Bool:=!sumK k&&sumK q
def zkv (k q:Int):Bool:=sumK q || (!sumK k&&z88 q)
theorem zo0 (k:Int):sumK k=true↔k=4∨k=5:=by unfold sumK;simp
theorem zqu (k:Int):z88 k=true↔4≤k∧k≤8:=by unfold z88;simp
theorem z05y {e x:z04} (h:z88 e.Kind=true):zi8 e x=some (zqt e.Kind x.Kind):=by
 rw [zqu] at h
 unfold zi8 zqt
 have hs:(if (x.Kind==4)=true then some true else some (x.Kind==5))=some (sumK x.Kind):=by unfold sumK;cases (x.Kind==4) <;> simp
 by_cases h6:e.Kind≥6
 ·have:sumK e.Kind=false:=by rw [Bool.eq_false_iff];intro h2;rw [zo0] at h2;omega
  rw [if_pos (by simpa using h6),hs,this];rfl
 ·have:sumK e.Kind=true:=by rw [zo0];omega
  rw [if_neg (by simpa using h6),this];rfl
theorem zwt {e x:z04} (h:z88 e.Kind=true):zeh e x=some (zkv e.Kind x.Kind):=by
 rw [zqu] at h
 unfold zeh zkv
 have hs:(if (x.Kind==4)=true then some true else some (x.Kind==5))=some (sumK x.Kind):=by unfold sumK;cases (x.Kind==4) <;> simp
 by_cases h6:e.Kind≥6
 ·have:sumK e.Kind=false:=by rw [Bool.eq_false_iff];intro h2;rw [zo0] at h2;omega
  rw [if_pos (by simpa using h6),zos,this]
  have:(sumK x.Kind || z88 x.Kind)=z88 x.Kind:=by
   rw [Bool.eq_iff_iff,Bool.or_eq_true,zo0,zqu];omega
  simp [this]
 ·have:sumK e.Kind=true:=by rw [zo0];omega
  rw [if_neg (by simpa using h6),hs,this];simp
def bn (b:Bool):Nat:=if b then 1 else 0
def dE:z04→Nat
 | ⟨_,_,_,[]⟩=>0
 | ⟨_,_,_,[x]⟩=>1+bn (z88 x.Kind)+dE x
 | ⟨k,_,_,[l,r]⟩=>max (dE l+bn (zqt k l.Kind)) (dE r+bn (zkv k r.Kind))
 | ⟨_,_,_,_::_::_::_⟩=>0
theorem z094 (b:Bool):bn b≤1:=by cases b <;> decide
theorem zqv:∀ e:z04,dE e≤2*szE (cE e)
 | ⟨k,n,s,[]⟩=>by simp only [dE];omega
 | ⟨k,n,s,[x]⟩=>by
  have:=zqv x;have:=z094 (z88 x.Kind)
  simp only [dE,cE,cEs,szE,szEs];omega
 | ⟨k,n,s,[l,r]⟩=>by
  have:=zqv l;have:=zqv r;have:=z094 (zqt k l.Kind);have:=z094 (zkv k r.Kind)
  simp only [dE,cE,cEs,szE,szEs];omega
 | ⟨k,n,s,a::b::c::l⟩=>by simp only [dE];omega
theorem zln (e:z04):(cE e).Kind=e.Kind:=by cases e;simp only [cE]
def dpB (d:Nat) (p:Int):Bool:=decide (1≤d)&&decide (p+(d:Int) > 24)
theorem z01t (m:Bool) (f:Int→Wr) (d:Nat) (p:Int) (h:∀ q,(f q).dp=dpB d q):(inP m f p).dp=dpB (d+bn m) p:=by
 unfold inP
 cases m with
 | false=>simp only [Bool.false_eq_true,if_false,bn,Nat.add_zero];exact h p
 | true =>
  simp only [if_true,Wr.dp_app,h,bn,wW,wD,dpB]
  rw [Bool.eq_iff_iff]
  simp only [Bool.or_eq_true,Bool.and_eq_true,decide_eq_true_eq,Bool.false_eq_true,false_or,or_false]
  omega
theorem zv4:∀ (e:z04) (p:Int),gE e=true→(sE (cE e) p).dp=dpB (dE e) p
 | ⟨k,n,s,[]⟩,p,h=>by
  simp only [cE,cEs,sE,zdo,dE,dpB]
  split <;> simp [wM,wI,wN]
 | ⟨k,n,s,[x]⟩,p,h=>by
  simp only [gE,Bool.and_eq_true,beq_iff_eq] at h
  obtain ⟨rfl,h⟩:=h
  have hx:=fun q=>zv4 x q h
  have:=z01t (z88 (cE x).Kind) (sE (cE x)) (dE x) (p+1) hx
  rw [zln] at this
  simp only [cE,cEs,sE,dE,show ((3:Int)==3)=true from rfl,if_true,Wr.dp_app,zln,this]
  simp only [wW,wD,dpB,Bool.false_or]
  rw [Bool.eq_iff_iff]
  simp only [Bool.or_eq_true,Bool.and_eq_true,decide_eq_true_eq]
  omega
 | ⟨k,n,s,[l,r]⟩,p,h=>by
  simp only [gE,Bool.and_eq_true] at h
  obtain ⟨hk,h1,h2⟩:=h
  have hl:=z01t (!sumK k&&sumK (cE l).Kind) (sE (cE l)) (dE l) p (fun q=>zv4 l q h1)
  have hr:=z01t (sumK (cE r).Kind || (!sumK k&&z88 (cE r).Kind)) (sE (cE r)) (dE r) p (fun q=>zv4 r q h2)
  rw [zln] at hl hr
  simp only [cE,cEs,sE,dE,hk,if_true,Wr.dp_app,zln,hl,hr]
  rw [show (!sumK k&&sumK l.Kind)=zqt k l.Kind from rfl,show (sumK r.Kind || (!sumK k&&z88 r.Kind))=zkv k r.Kind from rfl]
  simp only [wW,dpB,Bool.false_or]
  rw [Bool.eq_iff_iff]
  simp only [Bool.or_eq_true,Bool.and_eq_true,decide_eq_true_eq]
  omega
 | ⟨k,n,s,a::b::c::l⟩,p,h=>by simp only [gE] at h;cases h
theorem zqw:∀ e:z04,gE e=true→szE (cE e)≤400000000000→∀ n,Sn n (szE (cE e)) (z8g n e) ((dE e:Nat):Int)
 | ⟨k,m,s,[]⟩,h,hz,n=>by
  cases n with
  | zero=>exact .inr ⟨rfl,zan _⟩
  | succ n =>
   refine .inl ?_
   simp only [gE] at h
   have hk:k=1∨k=2:=by
    by_cases h1:k=1
    ·exact .inl h1
    ·rw [if_neg (by simpa using h1)] at h
     simp only [Bool.and_eq_true,beq_iff_eq] at h
     exact .inr h.1
   simp only [z8g,zos,dE]
   rcases hk with rfl|rfl <;> rfl
 | ⟨k,m,s,[x]⟩,h,hz,n=>by
  simp only [gE,Bool.and_eq_true,beq_iff_eq] at h
  obtain ⟨rfl,h⟩:=h
  simp only [cE,cEs,szE,szEs] at hz
  have hx:=zqw x h (by omega)
  have hd:=zqv x
  cases n with
  | zero=>exact .inr ⟨rfl,zan _⟩
  | succ n =>
   have e4:idx [x] 0=some x:=rfl
   simp only [z8g,show ((3:Int)==3)=true from rfl,if_true,e4,zos,Option.bind_eq_bind,Option.bind_some,dE]
   cases hp:z88 x.Kind with
   | true =>
    simp only [if_true]
    refine (Sn.bind (f:=fun v=>some (IntKind.i64.wrap (2+v))) (hx n) (.inl ?_)).up.mono (by simp only [cE,cEs,szE,szEs];omega)
    rw [w64 (by omega) (by omega)]
    simp only [bn,if_true];refine congrArg some ?_;omega
   | false =>
    simp only [Bool.false_eq_true,if_false]
    refine (Sn.bind (f:=fun v=>some (IntKind.i64.wrap (1+v))) (hx n) (.inl ?_)).up.mono (by simp only [cE,cEs,szE,szEs];omega)
    rw [w64 (by omega) (by omega)]
    simp only [bn,Bool.false_eq_true,if_false];refine congrArg some ?_;omega
 | ⟨k,m,s,[l,r]⟩,h,hz,n=>by
  simp only [gE,Bool.and_eq_true] at h
  obtain ⟨hk,h1,h2⟩:=h
  simp only [cE,cEs,szE,szEs] at hz
  have hl:=zqw l h1 (by omega)
  have hr:=zqw r h2 (by omega)
  have hdl:=zqv l
  have hdr:=zqv r
  cases n with
  | zero=>exact .inr ⟨rfl,zan _⟩
  | succ n =>
   have h3:(k==3)=false:=by
    rw [beq_eq_false_iff_ne];rintro rfl;cases hk
   have e4:idx [l,r] 0=some l:=rfl
   have e5:idx [l,r] 1=some r:=rfl
   have eL:=z05y (e:=⟨k,m,s,[l,r]⟩) (x:=l) hk
   have eR:=zwt (e:=⟨k,m,s,[l,r]⟩) (x:=r) hk
   simp only [z8g,h3,Bool.false_eq_true,if_false,e4,e5,zos,hk,if_true,Option.bind_eq_bind,Option.bind_some,eL,eR,dE]
   refine (Sn.bind (f:=_) ((hl n).mono (show szE (cE l)≤szE (cE ⟨k,m,s,[l,r]⟩) - 1 by simp only [cE,cEs,szE,szEs];omega)) (Sn.bind (f:=_) ((hr n).mono (show szE (cE r)≤szE (cE ⟨k,m,s,[l,r]⟩) - 1 by simp only [cE,cEs,szE,szEs];omega)) (.inl ?_))).up.mono (by have:=zan (cE ⟨k,m,s,[l,r]⟩);omega)
   rw [w64 (n:=((dE l:Nat):Int)+1) (by omega) (by omega),w64 (n:=((dE r:Nat):Int)+1) (by omega) (by omega)]
   cases zqt k l.Kind <;> cases zkv k r.Kind <;> simp only [bn,if_true,Bool.false_eq_true,if_false] <;> (refine congrArg some ?_;omega)
 | ⟨k,m,s,a::b::c::l⟩,h,hz,n=>by simp only [gE] at h;cases h
theorem zm0 {e:z04} (h:gE e=true) (hz:szE (cE e)≤400000000000):zd2 e=some ((dE e:Nat):Int):=Sn.unf fun n=>zqw e h hz n
def dC (c:z1k):Nat:=max (dE c.L) (dE c.R)
theorem z095 (c:z1k) (p:Int) (h:gC c=true):(sC (cC c) p).dp=dpB (dC c) p:=by
 unfold gC at h
 simp only [Bool.and_eq_true] at h
 unfold sC cC dC
 simp only [Wr.dp_app,zv4 _ _ h.2.1,zv4 _ _ h.2.2,h.1,if_true,wW,dpB]
 rw [Bool.eq_iff_iff]
 simp only [Bool.or_eq_true,Bool.and_eq_true,decide_eq_true_eq,Bool.false_eq_true,false_or,or_false]
 omega
def mx (x y:Nat × Nat):Nat × Nat:=(max x.1 y.1,max x.2 y.2)
def inr1 (x:Nat × Nat):Nat × Nat:=(x.1+1,x.2)
mutual
def dS:z03→Nat × Nat
 | .mk k n t e c b l a =>
  if k==1 || k==4 then (0,dE e)
  else if k==2 then mx (1,dC c) (mx (inr1 (dL b)) (inr1 (dL l)))
  else if k==3 then mx (1,dC c) (inr1 (dL b))
  else if k==5 then mx (1,0) (dA a)
  else if k==6 then (0,dC c)
  else (0,0)
def dL:List z03→Nat × Nat
 | []=>(0,0)
 | s::r=>mx (dS s) (dL r)
def dA:List z2k→Nat × Nat
 | []=>(0,0)
 | .mk t v b::r=>mx (inr1 (dL b)) (dA r)
end
def dq (d:Nat × Nat) (b:Int):Bool:=dpB d.1 b || decide (24<d.2)
theorem dpB0 (d:Nat):dpB d 0=decide (24<d):=by
 unfold dpB
 rw [Bool.eq_iff_iff]
 simp only [Bool.and_eq_true,decide_eq_true_eq]
 omega
theorem zyk (x y:Nat × Nat) (b:Int):dq (mx x y) b=(dq x b || dq y b):=by
 unfold dq mx dpB
 rw [Bool.eq_iff_iff]
 simp only [Bool.or_eq_true,Bool.and_eq_true,decide_eq_true_eq]
 omega
theorem z01u {f:Int→Wr} {d:Nat × Nat} (b:Int) (h:∀ q,(f q).dp=dq d q):(inB f b).dp=dq (inr1 d) b:=by
 unfold inB
 simp only [Wr.dp_app,h,wW,wD]
 unfold dq inr1 dpB
 rw [Bool.eq_iff_iff]
 simp only [Bool.or_eq_true,Bool.and_eq_true,decide_eq_true_eq,Bool.false_eq_true,false_or,or_false]
 omega
theorem dq_x (d x:Nat) (b:Int) (hd:d=0):dq (d,x) b=decide (24<x):=by subst hd;unfold dq dpB;simp
theorem z04w (x:Nat) (b:Int):dq (1,x) b=(decide (b+1 > 24) || decide (24<x)):=by unfold dq dpB;simp
theorem zkw (d:Nat × Nat) (b:Int):(decide (b+1 > 24) || dq (inr1 d) b)=dq (inr1 d) b:=by
 unfold dq inr1 dpB
 rw [Bool.eq_iff_iff]
 simp only [Bool.or_eq_true,Bool.and_eq_true,decide_eq_true_eq]
 omega
mutual
theorem z0dl:∀ (s:z03) (b:Int),gS s=true→(sS (cS s) b 0).dp=dq (dS s) b
 | .mk k n t e c bo el ar,b,h=>by
  simp only [gS] at h
  have hb:=fun (g:gL bo=true)=>z01u (f:=fun q=>sL (cL bo) q 0) b (fun q=>z01v bo q g)
  have he:=fun (g:gL el=true)=>z01u (f:=fun q=>sL (cL el) q 0) b (fun q=>z01v el q g)
  have ha:=z0ca ar b
  simp only [cS,sS,dS]
  by_cases h1:k=1
  ·subst h1
   simp only [show ((1:Int)==1)=true from rfl,if_true,Bool.true_or,Bool.and_eq_true] at h ⊢
   simp only [Wr.dp_app,zv4 _ _ h.2,dpB0,dq_x 0 _ _ rfl,wN,wW,Bool.false_or,Bool.or_false]
  have h1':(k==1)=false:=by simpa using h1
  by_cases h2:k=2
  ·subst h2
   simp only [show ((2:Int)==1)=false from rfl,show ((2:Int)==4)=false from rfl,show ((2:Int)==2)=true from rfl,if_true,Bool.false_eq_true,if_false,Bool.or_self,Bool.and_eq_true] at h ⊢
   obtain ⟨g1,g2,g3⟩:=h
   simp only [Wr.dp_app,z095 _ _ g1,dpB0,hb g2,zyk,z04w,wW,Bool.false_or]
   cases el with
   | nil =>
    simp only [cL,List.isEmpty_nil,if_true,Wr.nil,Bool.or_false,dL]
    rw [← zkw (dL bo) b]
    have:dq (inr1 (0,0)) b=decide (b+1 > 24):=by show dq (1,0) b=_;rw [z04w];simp
    rw [this]
    cases decide (b+1 > 24) <;> cases decide (24<dC c) <;> cases dq (inr1 (dL bo)) b <;> rfl
   | cons x r =>
    have hne:(cL (x::r)).isEmpty=false:=by simp only [cL];rfl
    rw [hne]
    simp only [Bool.false_eq_true,if_false,Wr.dp_app,he g3,wW,Bool.false_or]
    rw [← zkw (dL bo) b]
    cases decide (b+1 > 24) <;> cases decide (24<dC c) <;> cases dq (inr1 (dL bo)) b <;> cases dq (inr1 (dL (x::r))) b <;> rfl
  have h2':(k==2)=false:=by simpa using h2
  by_cases h3:k=3
  ·subst h3
   simp only [show ((3:Int)==1)=false from rfl,show ((3:Int)==4)=false from rfl,show ((3:Int)==2)=false from rfl,show ((3:Int)==3)=true from rfl,if_true,Bool.false_eq_true,if_false,Bool.or_self,Bool.and_eq_true] at h ⊢
   obtain ⟨g1,g2⟩:=h
   simp only [Wr.dp_app,z095 _ _ g1,dpB0,hb g2,zyk,z04w,wW,Bool.false_or]
   rw [← zkw (dL bo) b]
   cases decide (b+1 > 24) <;> cases decide (24<dC c) <;> cases dq (inr1 (dL bo)) b <;> rfl
  have h3':(k==3)=false:=by simpa using h3
  by_cases h4:k=4
  ·subst h4
   simp only [show ((4:Int)==1)=false from rfl,show ((4:Int)==2)=false from rfl,show ((4:Int)==3)=false from rfl,show ((4:Int)==4)=true from rfl,if_true,Bool.false_eq_true,if_false,Bool.or_true,Bool.and_eq_true] at h ⊢
   simp only [Wr.dp_app,zv4 _ _ h.2.2,dpB0,dq_x 0 _ _ rfl,wN,wW,Bool.false_or,Bool.or_false]
  have h4':(k==4)=false:=by simpa using h4
  by_cases h5:k=5
  ·subst h5
   simp only [show ((5:Int)==1)=false from rfl,show ((5:Int)==2)=false from rfl,show ((5:Int)==3)=false from rfl,show ((5:Int)==4)=false from rfl,show ((5:Int)==5)=true from rfl,if_true,Bool.false_eq_true,if_false,Bool.or_self,Bool.and_eq_true] at h ⊢
   obtain ⟨⟨g1,g2⟩,g3⟩:=h
   have hA:=ha g3
   simp only [Wr.dp_app,hA,zyk,z04w,wN,wW,wM,Bool.false_or,Bool.or_false]
   cases ar with
   | nil=>cases g2
   | cons x r =>
    cases x with
    | mk t v bo' =>
     simp only [dA,zyk]
     rw [← zkw (dL bo') b]
     have h0:decide ((24:Nat)<0)=false:=rfl
     rw [h0]
     cases decide (b+1 > 24) <;> cases dq (inr1 (dL bo')) b <;> cases dq (dA r) b <;> rfl
  have h5':(k==5)=false:=by simpa using h5
  by_cases h6:k=6
  ·subst h6
   simp only [show ((6:Int)==1)=false from rfl,show ((6:Int)==2)=false from rfl,show ((6:Int)==3)=false from rfl,show ((6:Int)==4)=false from rfl,show ((6:Int)==5)=false from rfl,show ((6:Int)==6)=true from rfl,if_true,Bool.false_eq_true,if_false,Bool.or_self] at h ⊢
   simp only [Wr.dp_app,z095 _ _ h,dpB0,dq_x 0 _ _ rfl,wW,Bool.false_or,Bool.or_false]
  have h6':(k==6)=false:=by simpa using h6
  simp only [h1',h2',h3',h4',h5',h6',Bool.false_eq_true,if_false,Bool.or_self]
  split <;> simp [wW,wN,wM,dq,dpB]
theorem z01v:∀ (l:List z03) (b:Int),gL l=true→(sL (cL l) b 0).dp=dq (dL l) b
 | [],b,h=>by simp only [cL,sL,dL];simp [Wr.nil,dq,dpB]
 | s::r,b,h=>by
  simp only [gL,Bool.and_eq_true] at h
  have h1:=z0dl s b h.1
  have h2:=z01v r b h.2
  simp only [cL,sL,dL,Wr.dp_app,h1,h2,zyk]
theorem z0ca:∀ (l:List z2k) (b:Int),gA l=true→(sA (cA l) b 0).dp=dq (dA l) b
 | [],b,h=>by simp only [cA,sA,dA];simp [Wr.nil,dq,dpB]
 | .mk t v bo::r,b,h=>by
  simp only [gA,Bool.and_eq_true] at h
  have h1:=fun q=>z01v bo q h.1.2.2
  have h2:=z0ca r b h.2
  have hB:=z01u (f:=fun q=>sL (cL bo) q 0) b h1
  simp only [cA,sA,dA,Wr.dp_app,hB,h2,zyk,wN,wW,Bool.false_or]
end
mutual
theorem z0dm:∀ s:z03,(dS s).1≤szS (cS s)∧(dS s).2≤2*szS (cS s)
 | .mk k n t e c bo el ar=>by
  have h1:=zv5 bo
  have h2:=zv5 el
  have h3:=z0cb ar
  have h4:=zqv e
  have h5:=zqv c.L
  have h6:=zqv c.R
  have hz:szC (cC c)=1+szE (cE c.L)+szE (cE c.R):=rfl
  rw [z04t,hz]
  simp only [dS]
  have hc:dC c=max (dE c.L) (dE c.R):=rfl
  split
  ·simp only;omega
  ·split
   ·simp only [mx,inr1];omega
   ·split
    ·simp only [mx,inr1];omega
    ·split
     ·simp only [mx];omega
     ·split
      ·simp only;omega
      ·simp only;omega
theorem zv5:∀ l:List z03,(dL l).1≤szL (cL l)∧(dL l).2≤2*szL (cL l)
 | []=>by simp only [dL];omega
 | s::r=>by
  have h1:=z0dm s
  have h2:=zv5 r
  simp only [dL,cL,szL,mx];omega
theorem z0cb:∀ l:List z2k,(dA l).1≤szA (cA l)∧(dA l).2≤2*szA (cA l)
 | []=>by simp only [dA];omega
 | .mk t v b::r=>by
  have h1:=zv5 b
  have h2:=z0cb r
  simp only [dA,cA,szA,mx,inr1];omega
end
theorem zkx (x y z:Nat × Nat):mx (mx x y) z=mx x (mx y z):=by simp only [mx,Nat.max_assoc]
theorem zqx (x:Nat × Nat):mx x (0,0)=x:=by simp [mx]
def zot:List (List z03)→Nat × Nat
 | []=>(0,0)
 | l::r=>mx (inr1 (dL l)) (zot r)
theorem zlo {F:List z03→Option (Int × Int)} {body:Int × Int × Int→Option (Sum (Int × Int × Int) (Sum (Int × Int) (Int × Int)))} {v:List (List z03)} {n H:Nat}
  (hb:∀ x,body x=if (decide (x.2.2<(v.length:Int))) then (idx v x.2.2>>=fun v7=>F v7>>=fun v8=>some (.inl ((max x.1 (IntKind.i64.wrap (v8.1+1))),(max x.2.1 v8.2),(IntKind.i64.wrap (x.2.2+1))))) else (some (.inr (.inr (x.1,x.2.1)))))
  (hlen:v.length≤400000000000) (hF:∀ l∈v,Sn n H (F l) (((dL l).1:Nat),((dL l).2:Nat))∧(dL l).1≤800000000000) :
  ∀ (m:List (List z03)) (i:Nat) (d:Nat × Nat),v.drop i=m→i≤v.length→Sn n H (iter body ((d.1:Nat),(d.2:Nat),(i:Int))) (.inr (((mx d (zot m)).1:Nat),((mx d (zot m)).2:Nat))):=by
 intro m
 induction m with
 | nil =>
  intro i d hd hi
  have:i=v.length:=by have:=List.drop_eq_nil_iff.1 hd;omega
  subst this
  refine .inl ?_
  rw [z3i (r:=.inr ((d.1:Nat),(d.2:Nat))) (by rw [hb];rw [if_neg (by simp)])]
  simp only [zot,zqx]
 | cons x m ih =>
  intro i d hd hi
  have hlt:i<v.length:=by
   refine Nat.lt_of_not_le fun h=>?_
   rw [List.drop_of_length_le h] at hd;cases hd
  rw [List.drop_eq_getElem_cons hlt] at hd
  injection hd with h1 h2
  have hi2:idx v (i:Int)=some x:=by rw [zgs hlt,h1]
  have hm:x∈v:=by rw [← h1];exact List.getElem_mem hlt
  obtain ⟨f1,f2⟩:=hF x hm
  have h3:Sn n H (body ((d.1:Nat),(d.2:Nat),(i:Int))) (.inl (((mx d (inr1 (dL x))).1:Nat),((mx d (inr1 (dL x))).2:Nat),((i+1:Nat):Int))):=by
   rw [hb,if_pos (by simpa using hlt)]
   simp only [hi2,Option.bind_eq_bind,Option.bind_some,zfz (i:=i) (by omega)]
   refine Sn.bind (f:=_) f1 (.inl ?_)
   rw [w64 (by omega) (by omega)]
   refine congrArg some (congrArg Sum.inl ?_)
   simp only [mx,inr1,Prod.mk.injEq]
   refine ⟨by omega,by omega,trivial⟩
  have h4:=ih (i+1) (mx d (inr1 (dL x))) h2 hlt
  rw [z8o]
  refine Sn.bind (f:=_) h3 ?_
  simp only [zot,← zkx]
  exact h4
theorem zpj:∀ ar:List z2k,zot (ar.map (·.Body))=dA ar
 | []=>by simp only [List.map_nil,zot,dA]
 | .mk t v b::r=>by
  have:=zpj r
  simp only [List.map_cons,zot,dA,this]
  rfl
theorem zv6 {F:List z03→Option (Int × Int)} {v1:z03} (hlen:v1.Arms.length≤400000000000):iter (z92 F v1) (0,[])=some (.inr (v1.Arms.map (·.Body))) :=
 zhz (body:=z92 F v1) (·.Body) v1.Arms hlen (fun i x acc hi hx hm ha hw=>by
  unfold z92
  rw [if_pos (by simpa using hi)]
  simp only [hx,Option.bind_eq_bind,Option.bind_some,hw]
  rw [z6o (by simp;omega)]
  rfl) (fun acc=>by unfold z92;rw [if_neg (by simp)])
theorem z01w:∀ (N:Nat) (l:List z03),szL (cL l)≤N→N≤400000000000→gL l=true→okL (cL l)→∀ n,Sn n (szL (cL l)) (z32 n l) ((((dL l).1:Nat):Int),(((dL l).2:Nat):Int)):=by
 intro N
 induction N with
 | zero=>intro l hl;have:=z6k (cL l);omega
 | succ N ih =>
  intro l hl hN hg ho n
  cases n with
  | zero=>exact .inr ⟨rfl,z6k _⟩
  | succ n =>
   have hll:=zwp l
   have hp:=z6k (cL l)
   have main:∀ (m:List z03) (i:Nat) (d:Nat × Nat),l.drop i=m→i≤l.length→Sn n (szL (cL l) - 1) (iter (z93 (z32 n) l) ((d.1:Nat),(d.2:Nat),(i:Int))) (.inr (((mx d (dL m)).1:Nat),((mx d (dL m)).2:Nat))):=by
    intro m
    induction m with
    | nil =>
     intro i d hd hi
     have:i=l.length:=by have:=List.drop_eq_nil_iff.1 hd;omega
     subst this
     refine .inl ?_
     rw [z3i (r:=.inr ((d.1:Nat),(d.2:Nat))) (by unfold z93;rw [if_neg (by simp)])]
     simp only [dL,zqx]
    | cons x m ihm =>
     intro i d hd hi
     have hlt:i<l.length:=by
      refine Nat.lt_of_not_le fun h=>?_
      rw [List.drop_of_length_le h] at hd;cases hd
     rw [List.drop_eq_getElem_cons hlt] at hd
     injection hd with h1 h2
     have hi2:idx l (i:Int)=some x:=by rw [zgs hlt,h1]
     have hm:x∈l:=by rw [← h1];exact List.getElem_mem hlt
     obtain ⟨hoS,hz⟩:=zqs ho hm
     have hgS:gS x=true:=by rw [zwr] at hg;exact List.all_eq_true.1 hg x hm
     have h3:Sn n (szL (cL l) - 1) (z93 (z32 n) l ((d.1:Nat),(d.2:Nat),(i:Int))) (.inl (((mx d (dS x)).1:Nat),((mx d (dS x)).2:Nat),((i+1:Nat):Int))):=by
      obtain ⟨k,nm,tg,e,c,bo,el,ar⟩:=x
      rw [z04t] at hz
      simp only [cS,okS] at hoS
      obtain ⟨on,ot,oe,oc,ob,oel,oar⟩:=hoS
      simp only [gS] at hgS
      have hzc:szC (cC c)=1+szE (cE c.L)+szE (cE c.R):=rfl
      have p1:=z6k (cL bo)
      have p2:=z6k (cL el)
      have p3:=zju (cA ar)
      have dl1:=zv5 bo
      have dl2:=zv5 el
      have fin:∀ q:Nat × Nat,(some (Sum.inl (((q.1:Nat):Int),((q.2:Nat):Int),IntKind.i64.wrap ((i:Int)+1))):Option (Sum (Int × Int × Int) (Sum (Int × Int) (Int × Int))))=some (.inl (((q.1:Nat):Int),((q.2:Nat):Int),((i+1:Nat):Int))):=fun q=>by rw [zfz (i:=i) (by omega)]
      have u3:iter (zdx (z32 n)) ()=some (.inr ()):=z3i (by rfl)
      have u4:iter (zdy (z32 n)) ()=some (.inr ()):=z3i (by rfl)
      have u9:iter (ze2 (z32 n)) ()=some (.inr ()):=z3i (by rfl)
      have u10:iter (zd3 (z32 n)) ()=some (.inr ()):=z3i (by rfl)
      unfold z93
      rw [if_pos (by simpa using hlt),hi2]
      simp only [Option.bind_eq_bind,Option.bind_some,u3,u4,u9,u10,Sum.elim_inr]
      dsimp only [z03.Kind,z03.E,z03.C,z03.Body,z03.Else]
      by_cases h1:k=1
      ·subst h1
       simp only [show ((1:Int)==1)=true from rfl,if_true,Bool.and_eq_true] at hgS
       refine .inl ?_
       simp only [Int.reduceBEq,if_true,Bool.false_eq_true,if_false]
       rw [zm0 hgS.2 (by omega)]
       simp only [Option.bind_some]
       rw [zfz (i:=i) (by omega)]
       simp only [dS,show ((1:Int)==1)=true from rfl,Bool.true_or,if_true,mx]
       refine congrArg some (congrArg Sum.inl ?_)
       simp only [Prod.mk.injEq];refine ⟨by omega,by omega,trivial⟩
      have z1:(k==1)=false:=by simpa using h1
      simp only [z1,Bool.false_eq_true,if_false]
      by_cases h4:k=4
      ·subst h4
       simp only [show ((4:Int)==1)=false from rfl,show ((4:Int)==2)=false from rfl,show ((4:Int)==3)=false from rfl,show ((4:Int)==4)=true from rfl,if_true,Bool.false_eq_true,if_false,Bool.and_eq_true] at hgS
       refine .inl ?_
       simp only [Int.reduceBEq,if_true,Bool.false_eq_true,if_false]
       rw [zm0 hgS.2.2 (by omega)]
       simp only [Option.bind_some]
       rw [zfz (i:=i) (by omega)]
       simp only [dS,show ((4:Int)==4)=true from rfl,Bool.or_true,if_true,mx]
       refine congrArg some (congrArg Sum.inl ?_)
       simp only [Prod.mk.injEq];refine ⟨by omega,by omega,trivial⟩
      have z4:(k==4)=false:=by simpa using h4
      simp only [z4,Bool.false_eq_true,if_false]
      by_cases h2:k=2
      ·subst h2
       simp only [show ((2:Int)==1)=false from rfl,show ((2:Int)==2)=true from rfl,if_true,Bool.false_eq_true,if_false,Bool.and_eq_true] at hgS
       obtain ⟨g1,g2,g3⟩:=hgS
       have gl:=g1
       unfold gC at gl
       simp only [Bool.and_eq_true] at gl
       simp only [Int.reduceBEq,if_true,Bool.false_eq_true,if_false]
       rw [z6o (by simp),zm0 gl.2.1 (by omega),zm0 gl.2.2 (by omega)]
       simp only [Option.bind_some,List.nil_append,Option.bind_assoc]
       have fb:=(ih bo (by omega) (by omega) g2 ob n).mono (show szL (cL bo)≤szL (cL l) - 1 by omega)
       have fe:=(ih el (by omega) (by omega) g3 oel n).mono (show szL (cL el)≤szL (cL l) - 1 by omega)
       have lp:=zlo (F:=z32 n) (body:=zdz (z32 n) [bo,el]) (v:=[bo,el]) (n:=n) (H:=szL (cL l) - 1) (fun x=>rfl) (by simp)
        (fun y hy=>by
         simp only [List.mem_cons,List.not_mem_nil,or_false] at hy
         rcases hy with rfl|rfl
         ·exact ⟨fb,by omega⟩
         ·exact ⟨fe,by omega⟩) [bo,el] 0 (mx d (1,dC c)) rfl (by omega)
       have est:((max ((d.1:Nat):Int) 1,max (max ((d.2:Nat):Int) ((dE c.L:Nat):Int)) ((dE c.R:Nat):Int),(0:Int)):Int × Int × Int)=((((mx d (1,dC c)).1:Nat):Int),(((mx d (1,dC c)).2:Nat):Int),((0:Nat):Int)):=by
        simp only [mx,dC,Prod.mk.injEq];refine ⟨by omega,by omega,rfl⟩
       rw [est]
       refine Sn.bind (f:=_) lp (.inl ?_)
       simp only [Sum.elim_inr,Option.bind_some]
       rw [zfz (i:=i) (by omega)]
       simp only [dS,show ((2:Int)==1)=false from rfl,show ((2:Int)==4)=false from rfl,show ((2:Int)==2)=true from rfl,Bool.or_self,Bool.false_eq_true,if_false,if_true,zot,zqx,zkx]
      have z2:(k==2)=false:=by simpa using h2
      simp only [z2,Bool.false_eq_true,if_false]
      by_cases h3:k=3
      ·subst h3
       simp only [show ((3:Int)==1)=false from rfl,show ((3:Int)==2)=false from rfl,show ((3:Int)==3)=true from rfl,if_true,Bool.false_eq_true,if_false,Bool.and_eq_true] at hgS
       obtain ⟨g1,g2⟩:=hgS
       have gl:=g1
       unfold gC at gl
       simp only [Bool.and_eq_true] at gl
       simp only [Int.reduceBEq,if_true,Bool.false_eq_true,if_false]
       rw [z6o (by simp),zm0 gl.2.1 (by omega),zm0 gl.2.2 (by omega)]
       simp only [Option.bind_some,List.nil_append,Option.bind_assoc]
       have fb:=(ih bo (by omega) (by omega) g2 ob n).mono (show szL (cL bo)≤szL (cL l) - 1 by omega)
       have lp:=zlo (F:=z32 n) (body:=ze0 (z32 n) [bo]) (v:=[bo]) (n:=n) (H:=szL (cL l) - 1) (fun x=>rfl) (by simp)
        (fun y hy=>by
         simp only [List.mem_cons,List.not_mem_nil,or_false] at hy
         subst hy
         exact ⟨fb,by omega⟩) [bo] 0 (mx d (1,dC c)) rfl (by omega)
       have est:((max ((d.1:Nat):Int) 1,max (max ((d.2:Nat):Int) ((dE c.L:Nat):Int)) ((dE c.R:Nat):Int),(0:Int)):Int × Int × Int)=((((mx d (1,dC c)).1:Nat):Int),(((mx d (1,dC c)).2:Nat):Int),((0:Nat):Int)):=by
        simp only [mx,dC,Prod.mk.injEq];refine ⟨by omega,by omega,rfl⟩
       rw [est]
       refine Sn.bind (f:=_) lp (.inl ?_)
       simp only [Sum.elim_inr,Option.bind_some]
       rw [zfz (i:=i) (by omega)]
       simp only [dS,show ((3:Int)==1)=false from rfl,show ((3:Int)==4)=false from rfl,show ((3:Int)==2)=false from rfl,show ((3:Int)==3)=true from rfl,Bool.or_self,Bool.false_eq_true,if_false,if_true,zot,zqx,zkx]
      have z3:(k==3)=false:=by simpa using h3
      simp only [z3,Bool.false_eq_true,if_false]
      by_cases h5:k=5
      ·subst h5
       simp only [show ((5:Int)==1)=false from rfl,show ((5:Int)==2)=false from rfl,show ((5:Int)==3)=false from rfl,show ((5:Int)==4)=false from rfl,show ((5:Int)==5)=true from rfl,if_true,Bool.false_eq_true,if_false,Bool.and_eq_true] at hgS
       obtain ⟨g1,g2⟩:=hgS
       have hal:=zsn ar
       simp only [Int.reduceBEq,if_true,Bool.false_eq_true,if_false]
       rw [zv6 (v1:=.mk 5 nm tg e c bo el ar) (by show ar.length≤_;omega)]
       simp only [Option.bind_some,Sum.elim_inr,Option.bind_assoc]
       dsimp only [z03.Arms]
       have lp:=zlo (F:=z32 n) (body:=ze1 (z32 n) (ar.map (·.Body))) (v:=ar.map (·.Body)) (n:=n) (H:=szL (cL l) - 1) (fun x=>rfl) (by rw [List.length_map];omega)
        (fun y hy=>by
         obtain ⟨a,ha,rfl⟩:=List.mem_map.1 hy
         obtain ⟨_,_,o3,z3⟩:=zku oar a ha
         have ga:gAr a=true:=by rw [zws] at g2;exact List.all_eq_true.1 g2 a ha
         unfold gAr at ga
         simp only [Bool.and_eq_true] at ga
         have:=zv5 a.Body
         exact ⟨(ih a.Body (by omega) (by omega) ga.2.2 o3 n).mono (by omega),by omega⟩) _ 0 (mx d (1,0)) rfl (by omega)
       have est:((max ((d.1:Nat):Int) 1,((d.2:Nat):Int),(0:Int)):Int × Int × Int)=((((mx d (1,0)).1:Nat):Int),(((mx d (1,0)).2:Nat):Int),((0:Nat):Int)):=by
        simp only [mx,Prod.mk.injEq];refine ⟨by omega,by omega,rfl⟩
       rw [est]
       refine Sn.bind (f:=_) lp (.inl ?_)
       simp only [Sum.elim_inr,Option.bind_some]
       rw [zfz (i:=i) (by omega),List.drop_zero,zpj]
       simp only [dS,show ((5:Int)==1)=false from rfl,show ((5:Int)==4)=false from rfl,show ((5:Int)==2)=false from rfl,show ((5:Int)==3)=false from rfl,show ((5:Int)==5)=true from rfl,Bool.or_self,Bool.false_eq_true,if_false,if_true,zkx]
      have z5:(k==5)=false:=by simpa using h5
      simp only [z5,Bool.false_eq_true,if_false]
      by_cases h6:k=6
      ·subst h6
       simp only [show ((6:Int)==1)=false from rfl,show ((6:Int)==2)=false from rfl,show ((6:Int)==3)=false from rfl,show ((6:Int)==4)=false from rfl,show ((6:Int)==5)=false from rfl,show ((6:Int)==6)=true from rfl,if_true,Bool.false_eq_true,if_false] at hgS
       have gl:=hgS
       unfold gC at gl
       simp only [Bool.and_eq_true] at gl
       refine .inl ?_
       simp only [Int.reduceBEq,if_true,Bool.false_eq_true,if_false]
       rw [zm0 gl.2.1 (by omega),zm0 gl.2.2 (by omega)]
       simp only [Option.bind_some]
       rw [zfz (i:=i) (by omega)]
       simp only [dS,show ((6:Int)==1)=false from rfl,show ((6:Int)==4)=false from rfl,show ((6:Int)==2)=false from rfl,show ((6:Int)==3)=false from rfl,show ((6:Int)==5)=false from rfl,show ((6:Int)==6)=true from rfl,Bool.or_self,Bool.false_eq_true,if_false,if_true,mx,dC]
       refine congrArg some (congrArg Sum.inl ?_)
       simp only [Prod.mk.injEq];refine ⟨by omega,by omega,trivial⟩
      have z6:(k==6)=false:=by simpa using h6
      simp only [z6,Bool.false_eq_true,if_false]
      refine .inl ?_
      simp only [Option.bind_some]
      rw [zfz (i:=i) (by omega)]
      simp only [dS,mx]
      have q1:(k==1)=false:=by simpa using h1
      have q2:(k==2)=false:=by simpa using h2
      have q3:(k==3)=false:=by simpa using h3
      have q4:(k==4)=false:=by simpa using h4
      have q5:(k==5)=false:=by simpa using h5
      have q6:(k==6)=false:=by simpa using h6
      simp only [q1,q2,q3,q4,q5,q6,Bool.or_self,Bool.false_eq_true,if_false]
      refine congrArg some (congrArg Sum.inl ?_)
      simp only [Prod.mk.injEq];refine ⟨by omega,by omega,trivial⟩
     have h4:=ihm (i+1) (mx d (dS x)) h2 hlt
     rw [z8o]
     refine Sn.bind (f:=_) h3 ?_
     simp only [dL,← zkx]
     exact h4
   have h0:=main l 0 (0,0) rfl (by omega)
   have e0:mx (0,0) (dL l)=dL l:=by simp [mx]
   rw [e0] at h0
   have t2:=(Sn.bind (f:=Sum.elim (fun _=>none) (fun j1=>some (j1.1,j1.2))) h0 (t:=((((dL l).1:Nat):Int),(((dL l).2:Nat):Int))) (.inl rfl)).up
   exact t2.mono (by omega)
theorem z04x {l:List z03} (hg:gL l=true) (ho:okL (cL l)) (h:szL (cL l)≤400000000000):zl6 l=some ((((dL l).1:Nat):Int),(((dL l).2:Nat):Int)):=Sn.unf fun n=>z01w _ l (Nat.le_refl _) h hg ho n
theorem z0dn (u:Nat) (h:u≤9223372036854775807):quo .i64 (u:Int) 10=some ((u / 10:Nat):Int):=by
 unfold quo
 rw [if_neg (by omega)]
 have e:(u:Int).tdiv 10=((u / 10:Nat):Int):=by rw [Int.tdiv_eq_ediv_of_nonneg (by omega)];simp
 rw [e,w64 (by omega) (by omega)]
theorem z0do (u:Nat):rem (u:Int) 10=some ((u % 10:Nat):Int):=by
 unfold rem
 rw [if_neg (by omega)]
 have e:(u:Int).tmod 10=((u % 10:Nat):Int):=by rw [Int.tmod_eq_emod_of_nonneg (by omega)];simp
 rw [e]
theorem z0cc (u:Nat):strOfNums [IntKind.u8.wrap (IntKind.i64.wrap (48+((u % 10:Nat):Int)))]=bA [UInt8.ofNat (48+u % 10)]:=by
 rw [w64 (by omega) (by omega),w8u (by omega) (by omega)]
 show ByteArray.mk [UInt8.ofNat ((48+((u % 10:Nat):Int))).toNat].toArray=_
 rw [show ((48+((u % 10:Nat):Int))).toNat=48+u % 10 by omega]
 rfl
theorem z01x (c:UInt8) (s:List UInt8):((bA (c::s)).toList==(ByteArray.mk #[]).toList)=false:=by
 have e1:∀ l,(bA l).toList=l:=fun l=>by rw [Go.ByteArray.toList_eq];rfl
 have e2:(ByteArray.mk #[]).toList=[]:=e1 []
 rw [e1,e2];rfl
section
variable {F:z04→Option (List ByteArray)} {G:z04→Bool→Option (List ByteArray)}
theorem zsp {c:UInt8} {s:List UInt8}:z43 F G (bA (c::s),0)=some (.inr (.inr (bA (c::s)))):=by
 unfold z43
 show ((if decide ((0:Int) > 0)=true then some true else some ((bA (c::s)).toList==(ByteArray.mk #[]).toList))>>=_)=_
 rw [if_neg (by decide),z01x,sb]
 rfl
theorem zsq {u:Nat} {s:List UInt8} (hu:u≤9223372036854775807) (hs:s.length≤1000) (h:0<u∨s=[]):z43 F G (bA s,(u:Int))=some (.inl (bA (UInt8.ofNat (48+u % 10)::s),((u / 10:Nat):Int))):=by
 have hc:(if decide ((u:Int) > 0)=true then some true else some ((bA s).toList==(ByteArray.mk #[]).toList))=some true:=by
  rcases h with h|rfl
  ·rw [if_pos (by simpa using h)]
  ·split
   ·rfl
   ·exact congrArg some (eqT _)
 unfold z43
 simp only [hc,sb,if_true,z0do,z0dn u hu,z0cc]
 rw [z06p (by simp;omega)]
 rfl
theorem z05z:∀ (k u:Nat) (s:List UInt8),u<10 ^ k→u≤9223372036854775807→s.length+k≤1000→(0<u∨s=[])→iter (z43 F G) (bA s,(u:Int))=some (.inr (bA (Lib.decDigits u++s)))
 | 0,u,s,h0,hu,hl,h=>by
  have:u=0:=by simpa using h0
  subst this
  rcases h with h|rfl
  ·omega
  ·rw [z8o,zsq (u:=0) (by omega) (by simp) (.inr rfl)]
   show iter (z43 F G) (_,0)=_
   rw [z8o,zsp]
   rw [Lib.decDigits,dif_pos (by omega)]
   rfl
 | k+1,u,s,h0,hu,hl,h=>by
  rw [z8o,zsq hu (by omega) h]
  show iter (z43 F G) (_,((u / 10:Nat):Int))=_
  by_cases hb:u<10
  ·rw [show u / 10=0 by omega]
   show iter (z43 F G) (_,0)=_
   rw [z8o,zsp,Lib.decDigits,dif_pos hb,show u % 10=u by omega]
   rfl
  ·rw [z05z k (u / 10) _ (by rw [Nat.pow_succ] at h0;omega) (by omega) (by simp;omega) (.inl (by omega))]
   rw [Lib.decDigits.eq_def u,dif_neg hb]
   simp
theorem z0dp {n:Int} (h:zb9 n=true):iter (z43 F G) (ByteArray.mk #[],n)=some (.inr (zfy n)):=by
 unfold zb9 at h
 simp only [Bool.and_eq_true,decide_eq_true_eq] at h
 have:=z05z (F:=F) (G:=G) 20 n.toNat [] (by have:(10:Nat) ^ 20=100000000000000000000:=(by decide);omega) (by omega) (by simp) (.inr rfl)
 rw [List.append_nil,show ((n.toNat:Nat):Int)=n by omega] at this
 show iter (z43 F G) (bA [],n)=_
 rw [this]
 unfold zfy Lib.itoa
 rw [if_neg (by omega)]
 rfl
end
def inW (m:Bool) (w:List ByteArray):List ByteArray:=if m then (ByteArray.mk #[40])::w++[ByteArray.mk #[41]] else w
theorem zpk (m:Bool) (f:Int→Wr) (p:Int) (w:List ByteArray) (h:∀ q,(f q).ws=w):(inP m f p).ws=inW m w:=by
 unfold inP inW
 cases m <;> simp [wW,wD,h]
theorem zff:∀ (e:z06) (p q:Int),(sE e p).ws=(sE e q).ws
 | ⟨k,n,s,[]⟩,p,q=>by simp only [sE]
 | ⟨k,n,s,[x]⟩,p,q=>by
  have hx:=zff x
  simp only [sE]
  split
  ·simp only [Wr.ws_app,zpk _ _ _ (sE x 0).ws (fun q=>hx q 0)]
   simp [wW,wD]
  ·rfl
 | ⟨k,n,s,[l,r]⟩,p,q=>by
  have hl:=zff l
  have hr:=zff r
  simp only [sE]
  split
  ·simp only [Wr.ws_app,zpk _ _ _ (sE l 0).ws (fun q=>hl q 0),zpk _ _ _ (sE r 0).ws (fun q=>hr q 0)]
  ·rfl
 | ⟨k,n,s,a::b::c::l⟩,p,q=>by simp only [sE]
def eW (e:z04):List ByteArray:=(sE (cE e) 0).ws
theorem zo1 (e:z04):(eW e).length≤5*szE (cE e):=zny _ _
theorem zv7 (m:Bool) (w:List ByteArray):(inW m w).length≤w.length+2:=by unfold inW;split <;> simp
theorem z89 {a b:List ByteArray} (h:a.length+b.length≤8000000000000):app 16 a b=some (a++b):=z6o (by omega)
theorem z096 {e:z04} {m:Bool} {n h:Nat} (k:∀ n,Sn n h (z4c n e) (eW e)) (hz:szE (cE e)≤400000000000):Sn n (h+1) (zcq n e m) (inW m (eW e)):=by
 cases n with
 | zero=>exact .inr ⟨rfl,by omega⟩
 | succ n =>
  have hl:=zo1 e
  simp only [zcq,Option.bind_eq_bind]
  refine (Sn.bind (f:=_) (k n) (.inl ?_)).up
  cases m with
  | false=>rfl
  | true =>
   simp only [if_true]
   rw [z89 (by simp;omega)]
   simp only [Option.bind_some]
   rw [z89 (by simp;omega)]
   rfl
theorem zf8:∀ e:z04,gE e=true→szE (cE e)≤400000000000→∀ n,Sn n (2*szE (cE e)) (z4c n e) (eW e)
 | ⟨k,m,s,[]⟩,h,hz,n=>by
  cases n with
  | zero=>exact .inr ⟨rfl,by have:=zan (cE ⟨k,m,s,[]⟩);omega⟩
  | succ n =>
   refine .inl ?_
   simp only [gE] at h
   simp only [z4c,eW,cE,cEs,sE,zdo]
   by_cases h1:k=1
   ·subst h1
    rw [if_pos (by decide)] at h
    rw [if_pos (by decide),z0dp h]
    rfl
   ·rw [if_neg (by simpa using h1)] at h
    simp only [Bool.and_eq_true,beq_iff_eq] at h
    obtain ⟨rfl,h2⟩:=h
    rfl
 | ⟨k,m,s,[x]⟩,h,hz,n=>by
  simp only [gE,Bool.and_eq_true,beq_iff_eq] at h
  obtain ⟨rfl,h⟩:=h
  simp only [cE,cEs,szE,szEs] at hz
  have hx:=zf8 x h (by omega)
  have hl:=zo1 x
  have hl2:=zv7 (z88 x.Kind) (eW x)
  cases n with
  | zero=>exact .inr ⟨rfl,by have:=zan (cE ⟨3,m,s,[x]⟩);omega⟩
  | succ n =>
   have e4:idx [x] 0=some x:=rfl
   simp only [z4c,show ((3:Int)==1)=false from rfl,show ((3:Int)==2)=false from rfl,show ((3:Int)==3)=true from rfl,Bool.false_eq_true,if_false,if_true,e4,zos,Option.bind_eq_bind,Option.bind_some]
   refine (Sn.bind (f:=_) (z096 (m:=z88 x.Kind) (n:=n) hx (by omega)) (.inl ?_)).up.mono (by simp only [cE,cEs,szE,szEs];omega)
   rw [z89 (by simp;omega)]
   refine congrArg some ?_
   simp only [eW,cE,cEs,sE,show ((3:Int)==3)=true from rfl,if_true,Wr.ws_app,zpk _ _ _ (sE (cE x) 0).ws (fun q=>zff _ q 0),zln]
   rfl
 | ⟨k,m,s,[l,r]⟩,h,hz,n=>by
  simp only [gE,Bool.and_eq_true] at h
  obtain ⟨hk,h1,h2⟩:=h
  simp only [cE,cEs,szE,szEs] at hz
  have hl:=zf8 l h1 (by omega)
  have hr:=zf8 r h2 (by omega)
  have ll:=zo1 l
  have lr:=zo1 r
  have ll2:=zv7 (zqt k l.Kind) (eW l)
  have lr2:=zv7 (zkv k r.Kind) (eW r)
  cases n with
  | zero=>exact .inr ⟨rfl,by have:=zan (cE ⟨k,m,s,[l,r]⟩);omega⟩
  | succ n =>
   have q1:(k==1)=false:=by rw [beq_eq_false_iff_ne];rintro rfl;cases hk
   have q2:(k==2)=false:=by rw [beq_eq_false_iff_ne];rintro rfl;cases hk
   have q3:(k==3)=false:=by rw [beq_eq_false_iff_ne];rintro rfl;cases hk
   have e4:idx [l,r] 0=some l:=rfl
   have e5:idx [l,r] 1=some r:=rfl
   have eL:=z05y (e:=⟨k,m,s,[l,r]⟩) (x:=l) hk
   have eR:=zwt (e:=⟨k,m,s,[l,r]⟩) (x:=r) hk
   simp only [z4c,q1,q2,q3,Bool.false_eq_true,if_false,e4,e5,Option.bind_eq_bind,Option.bind_some,eL,eR,z04k hk]
   have hH:∀ z:Nat,z+1≤2*szE (cE ⟨k,m,s,[l,r]⟩) - 1→z+1≤2*szE (cE ⟨k,m,s,[l,r]⟩) - 1:=fun _ h=>h
   refine (Sn.bind (f:=_) ((z096 (m:=zqt k l.Kind) (n:=n) hl (by omega)).mono (show 2*szE (cE l)+1≤2*szE (cE ⟨k,m,s,[l,r]⟩) - 1 by simp only [cE,cEs,szE,szEs];omega)) ?_).up.mono (by have:=zan (cE ⟨k,m,s,[l,r]⟩);omega)
   rw [z89 (by simp;omega)]
   simp only [Option.bind_some]
   refine Sn.bind (f:=_) ((z096 (m:=zkv k r.Kind) (n:=n) hr (by omega)).mono (show 2*szE (cE r)+1≤2*szE (cE ⟨k,m,s,[l,r]⟩) - 1 by simp only [cE,cEs,szE,szEs];omega)) (.inl ?_)
   rw [z89 (by simp;omega)]
   refine congrArg some ?_
   simp only [eW,cE,cEs,sE,hk,if_true,Wr.ws_app,zpk _ _ _ (sE (cE l) 0).ws (fun q=>zff _ q 0),zpk _ _ _ (sE (cE r) 0).ws (fun q=>zff _ q 0),zln,wW,zqt,zkv,List.append_assoc]
 | ⟨k,m,s,a::b::c::l⟩,h,hz,n=>by simp only [gE] at h;cases h
theorem zez {e:z04} (h:gE e=true) (hz:szE (cE e)≤400000000000):z94 e=some (eW e):=Sn.unf fun n=>zf8 e h hz n
theorem zqy {n:Int} (h:zb9 n=true):zcr n=some (zfy n):=by
 unfold zcr
 rw [zez (e:=⟨1,n,ByteArray.mk #[],[]⟩) (by simp only [gE];simpa using h) (by simp [cE,cEs,szE,szEs])]
 rfl
def cW (c:z1k):List ByteArray:=(sC (cC c) 0).ws
theorem z0cd (c:z1k):(cW c).length≤5*szC (cC c):=z05s _ _
theorem zjx {c:z1k} (h:gC c=true) (hz:szC (cC c)≤400000000000):z95 c=some (cW c):=by
 unfold gC at h
 simp only [Bool.and_eq_true] at h
 have hc:szC (cC c)=1+szE (cE c.L)+szE (cE c.R):=rfl
 have l1:=zo1 c.L
 have l2:=zo1 c.R
 unfold z95
 rw [zez h.2.1 (by omega),zez h.2.2 (by omega),z0c3 h.1]
 simp only [Option.bind_eq_bind,Option.bind_some]
 rw [z89 (by simp;omega)]
 simp only [Option.bind_some]
 rw [z89 (by simp;omega)]
 simp only [Option.bind_some]
 rw [z89 (by simp;omega)]
 simp only [Option.bind_some]
 rw [z89 (by simp;omega)]
 simp only [Option.bind_some]
 refine congrArg some ?_
 simp only [cW,cC,sC,Wr.ws_app,h.1,if_true,wW,eW,List.append_assoc]
def z9b {β:Type} (g:Nat→β→List ByteArray):Nat→List β→List ByteArray
 | _,[]=>[]
 | i,x::r=>g i x++z9b g (i+1) r
theorem zfh {β:Type} (g:Nat→β→Wr):∀ (l:List β) (i:Nat),(zbb g i l).ws=z9b (fun i x=>(g i x).ws) i l
 | [],i=>rfl
 | x::r,i=>by simp only [zbb,z9b,Wr.ws_app,zfh g r (i+1)]
theorem z7f {β:Type} {g g':Nat→β→List ByteArray}:∀ (l:List β) (i:Nat),(∀ i,∀ x∈l,g i x=g' i x)→z9b g i l=z9b g' i l
 | [],i,h=>rfl
 | x::r,i,h=>by simp only [z9b,h i x List.mem_cons_self,z7f r (i+1) fun i y hy=>h i y (List.mem_cons_of_mem _ hy)]
theorem zg1 {β γ:Type} (f:β→γ) (g:Nat→γ→List ByteArray):∀ (l:List β) (i:Nat),z9b g i (l.map f)=z9b (fun i x=>g i (f x)) i l
 | [],i=>rfl
 | x::r,i=>by simp only [List.map_cons,z9b,zg1 f g r (i+1)]
theorem zqz {β X O:Type} {body:X→Option (Sum X O)} {n H:Nat} (l:List β) (g:Nat→β→List ByteArray) (c:β→Nat) (M:Nat) (mk:Nat→List ByteArray→X) (out:List ByteArray→O) (hlen:l.length≤4611686018427387904) (hg:∀ i x,x∈l→(g i x).length≤c x)
  (hs:∀ (i:Nat) x acc,idx l (i:Int)=some x→x∈l→i<l.length→IntKind.i64.wrap ((i:Int)+1)=((i+1:Nat):Int)→acc.length+c x≤M→Sn n H (body (mk i acc)) (.inl (mk (i+1) (acc++g i x))))
  (he:∀ acc,body (mk l.length acc)=some (.inr (out acc))) :
  ∀ (m:List β) (i:Nat) (acc:List ByteArray),l.drop i=m→i≤l.length→acc.length+sumN c m≤M→Sn n H (iter body (mk i acc)) (out (acc++z9b g i m)):=by
 intro m
 induction m with
 | nil =>
  intro i acc hd hi hM
  have:i=l.length:=by have:=List.drop_eq_nil_iff.1 hd;omega
  subst this
  exact .inl (by rw [z3i (he acc)];simp [z9b])
 | cons x m ih =>
  intro i acc hd hi hM
  have hlt:i<l.length:=by
   refine Nat.lt_of_not_le fun h=>?_
   rw [List.drop_of_length_le h] at hd;cases hd
  rw [List.drop_eq_getElem_cons hlt] at hd
  injection hd with h1 h2
  simp only [sumN] at hM
  have hm:x∈l:=by rw [← h1];exact List.getElem_mem hlt
  have h3:=hs i x acc (by rw [zgs hlt,h1]) hm hlt (zfz (by omega)) (by omega)
  have hgl:=hg i x hm
  have h4:=ih (i+1) (acc++g i x) h2 hlt (by rw [List.length_append];omega)
  rw [z8o]
  refine Sn.bind (f:=_) h3 ?_
  simpa [z9b] using h4
theorem ze9 {β O:Type} {body:Int × List ByteArray→Option (Sum (Int × List ByteArray) O)} (l:List β) (g:Nat→β→List ByteArray) (c:β→Nat) (M:Nat) (out:List ByteArray→O) (hlen:l.length≤4611686018427387904) (hg:∀ i x,x∈l→(g i x).length≤c x)
  (hs:∀ (i:Nat) x acc,idx l (i:Int)=some x→x∈l→i<l.length→IntKind.i64.wrap ((i:Int)+1)=((i+1:Nat):Int)→acc.length+c x≤M→body ((i:Int),acc)=some (.inl (((i+1:Nat):Int),acc++g i x)))
  (he:∀ acc,body ((l.length:Int),acc)=some (.inr (out acc))) (acc:List ByteArray) (hM:acc.length+sumN c l≤M):iter body (0,acc)=some (out (acc++z9b g 0 l)):=by
 rcases zqz (n:=0) (H:=0) l g c M (fun i acc=>((i:Int),acc)) out hlen hg (fun i x acc h1 h2 h3 h4 h5=>.inl (hs i x acc h1 h2 h3 h4 h5)) he l 0 acc rfl (by omega) hM with h|⟨_,h⟩
 ·exact h
 ·omega
theorem zky (f:Int→Wr) (b:Int) (w:List ByteArray) (h:∀ q,(f q).ws=w):(inB f b).ws=(ByteArray.mk #[123])::w++[ByteArray.mk #[125]]:=by unfold inB;simp [wW,wD,h]
theorem z097 (c:z3t) (p q:Int):(sC c p).ws=(sC c q).ws:=by
 unfold sC;simp only [Wr.ws_app,zff c.L p q,zff c.R p q]
mutual
theorem z0dq:∀ (s:z05) (b p b' p':Int),(sS s b p).ws=(sS s b' p').ws
 | .mk k n t e c bo el ar,b,p,b',p'=>by
  have h1:=fun b p=>z01y bo b p 0 0
  have h2:=fun b p=>z01y el b p 0 0
  have h3:=z0ce ar b p b' p'
  simp only [sS]
  split
  ·simp only [Wr.ws_app,zff e p p']
  ·split
   ·simp only [Wr.ws_app,z097 c p p',zky _ _ _ (fun q=>h1 q p),zky _ _ _ (fun q=>h1 q p')]
    split
    ·rfl
    ·simp only [Wr.ws_app,zky _ _ _ (fun q=>h2 q p),zky _ _ _ (fun q=>h2 q p')]
   ·split
    ·simp only [Wr.ws_app,z097 c p p',zky _ _ _ (fun q=>h1 q p),zky _ _ _ (fun q=>h1 q p')]
    ·split
     ·simp only [Wr.ws_app,zff e p p']
     ·split
      ·simp only [Wr.ws_app,h3]
      ·split
       ·simp only [Wr.ws_app,z097 c p p']
       ·rfl
theorem z01y:∀ (l:List z05) (b p b' p':Int),(sL l b p).ws=(sL l b' p').ws
 | [],b,p,b',p'=>by simp only [sL]
 | s::r,b,p,b',p'=>by simp only [sL,Wr.ws_app,z0dq s b p b' p',z01y r b p b' p']
theorem z0ce:∀ (l:List z0y) (b p b' p':Int),(sA l b p).ws=(sA l b' p').ws
 | [],b,p,b',p'=>by simp only [sA]
 | .mk t v bo::r,b,p,b',p'=>by
  have h1:=fun b p=>z01y bo b p 0 0
  simp only [sA,Wr.ws_app,zky _ _ _ (fun q=>h1 q p),zky _ _ _ (fun q=>h1 q p'),z0ce r b p b' p']
end
def stW (s:z03):List ByteArray:=(sS (cS s) 0 0).ws
def lW (l:List z03):List ByteArray:=(sL (cL l) 0 0).ws
def blW (l:List z03):List ByteArray:=(ByteArray.mk #[123])::lW l++[ByteArray.mk #[125]]
def arW (x:z2k):List ByteArray:=[x.Tag,ByteArray.mk #[40],x.Var,ByteArray.mk #[41]]++blW x.Body
theorem z01z (l:List z03):(lW l).length≤5*szL (cL l):=zph _ _ _
theorem z098 (l:z03):(stW l).length≤5*szS (cS l):=z05t _ _ _
theorem zr0 (l:List z03):(blW l).length≤5*szL (cL l)+2:=by have:=z01z l;unfold blW;simp;omega
theorem z020:∀ (l:List z03) (i:Nat),lW l=z9b (fun _ s=>stW s) i l
 | [],i=>by simp only [lW,cL,sL,z9b];rfl
 | s::r,i=>by
  have:=z020 r (i+1)
  simp only [z9b,← this]
  simp only [lW,cL,sL,Wr.ws_app,stW]
theorem zwu (l:List z03) (b p:Int):(inB (fun q=>sL (cL l) q p) b).ws=blW l:=zky _ _ _ (fun q=>z01y _ _ _ 0 0)
theorem zv8:∀ (l:List z2k) (i:Nat),(sA (cA l) 0 0).ws=z9b (fun _ x=>arW x) i l
 | [],i=>by simp only [cA,sA,z9b];rfl
 | .mk t v b::r,i=>by
  have:=zv8 r (i+1)
  simp only [z9b,← this,cA,sA,Wr.ws_app,zwu]
  simp [arW,wN,wW,z2k.Tag,z2k.Var,z2k.Body]
theorem z021:∀ l:List z03,sumN (fun s=>szS (cS s)) l+1=szL (cL l)
 | []=>by simp only [sumN,cL,szL]
 | s::r=>by have:=z021 r;simp only [sumN,cL,szL];omega
theorem z022:∀ l:List z2k,sumN (fun x=>2+szL (cL x.Body)) l+1=szA (cA l)
 | []=>by simp only [sumN,cA,szA]
 | .mk t v b::r=>by have:=z022 r;simp only [sumN,cA,szA];show 2+szL (cL b)+_+1=_;omega
theorem zmk {l:List z03} {n h:Nat} (k:∀ n,Sn n h (z4d n l) (lW l)) (hz:szL (cL l)≤400000000000):Sn n (h+1) (z7s n l) (blW l):=by
 cases n with
 | zero=>exact .inr ⟨rfl,by omega⟩
 | succ n =>
  have hl:=z01z l
  simp only [z7s,Option.bind_eq_bind]
  refine (Sn.bind (f:=_) (k n) (.inl ?_)).up
  rw [z89 (by simp;omega)]
  simp only [Option.bind_some]
  rw [z89 (by simp;omega)]
  rfl
theorem zsr:∀ (N:Nat) (l:List z03),szL (cL l)≤N→N≤400000000000→gL l=true→okL (cL l)→∀ n,Sn n (2*szL (cL l)) (z4d n l) (lW l):=by
 intro N
 induction N with
 | zero=>intro l hl;have:=z6k (cL l);omega
 | succ N ih =>
  intro l hl hN hg ho n
  cases n with
  | zero=>exact .inr ⟨rfl,by have:=z6k (cL l);omega⟩
  | succ n =>
   have hll:=zwp l
   have hp:=z6k (cL l)
   have hsum:=z021 l
   have hsum5:sumN (fun s=>5*szS (cS s)) l=5*sumN (fun s=>szS (cS s)) l:=zgo 5 _ l
   have h:=zqz (n:=n) (H:=2*szL (cL l) - 1) (body:=z8c (z4d n) (z7s n) l) l (fun _ s=>stW s) (fun s=>5*szS (cS s)) 4000000000000 (fun i acc=>((i:Int),acc)) (fun acc=>.inr acc) (by omega) (fun i x _=>z098 x)
    (fun i x acc hx hm hlt hw hM=>by
     obtain ⟨hoS,hz⟩:=zqs ho hm
     have hgS:gS x=true:=by rw [zwr] at hg;exact List.all_eq_true.1 hg x hm
     obtain ⟨k,nm,tg,e,c,bo,el,ar⟩:=x
     rw [z04t] at hz hM
     simp only [cS,okS] at hoS
     obtain ⟨on,ot,oe,oc,ob,oel,oar⟩:=hoS
     simp only [gS] at hgS
     have hzc:szC (cC c)=1+szE (cE c.L)+szE (cE c.R):=rfl
     have p1:=z6k (cL bo)
     have p2:=z6k (cL el)
     have p3:=zju (cA ar)
     have l1:=zo1 e
     have l2:=z0cd c
     have l3:=zr0 bo
     have l4:=zr0 el
     unfold z8c
     rw [if_pos (by simpa using hlt),hx]
     simp only [Option.bind_eq_bind,Option.bind_some,hw]
     dsimp only [z03.Kind,z03.Name,z03.Tag,z03.E,z03.C,z03.Body]
     have fin:∀ w:List ByteArray,w=stW (.mk k nm tg e c bo el ar)→(some (Sum.inl (((i+1:Nat):Int),acc++w)):Option (Sum (Int × List ByteArray) (Sum (List ByteArray) (List ByteArray))))=some (.inl (((i+1:Nat):Int),acc++stW (.mk k nm tg e c bo el ar))):=fun w hw=>by rw [hw]
     by_cases h1:k=1
     ·subst h1
      simp only [show ((1:Int)==1)=true from rfl,if_true,Bool.and_eq_true] at hgS ⊢
      refine .inl ?_
      rw [z89 (by simp;omega)]
      simp only [Option.bind_some]
      rw [zez hgS.2 (by omega)]
      simp only [Option.bind_some]
      rw [z89 (by simp;omega)]
      simp only [Option.bind_some]
      rw [z89 (by simp;omega)]
      simp only [Option.bind_some,List.append_assoc]
      refine fin _ ?_
      simp only [stW,cS,sS,show ((1:Int)==1)=true from rfl,if_true,Wr.ws_app,wN,wW]
      rfl
     have z1:(k==1)=false:=by simpa using h1
     simp only [z1,Bool.false_eq_true,if_false] at hgS ⊢
     by_cases h2:k=2
     ·subst h2
      simp only [show ((2:Int)==2)=true from rfl,if_true,Bool.and_eq_true] at hgS ⊢
      obtain ⟨g1,g2,g3⟩:=hgS
      have fb:=(zmk (n:=n) (ih bo (by omega) (by omega) g2 ob) (by omega)).mono (show 2*szL (cL bo)+1≤2*szL (cL l) - 1 by omega)
      have fe:=(zmk (n:=n) (ih el (by omega) (by omega) g3 oel) (by omega)).mono (show 2*szL (cL el)+1≤2*szL (cL l) - 1 by omega)
      rw [z89 (by simp;omega)]
      simp only [Option.bind_some]
      rw [zjx g1 (by omega)]
      simp only [Option.bind_some]
      rw [z89 (by simp;omega)]
      simp only [Option.bind_some,Option.bind_assoc]
      refine Sn.bind (f:=_) fb ?_
      rw [z89 (by simp;omega)]
      simp only [Option.bind_some]
      have hS:stW (.mk 2 nm tg e c bo el ar)=[ByteArray.mk #[105,102]]++(cW c++(blW bo++(if (cL el).isEmpty then [] else [ByteArray.mk #[101,108,115,101]]++blW el))):=by
       simp only [stW,cS,sS,show ((2:Int)==1)=false from rfl,show ((2:Int)==2)=true from rfl,Bool.false_eq_true,if_false,if_true,Wr.ws_app,zwu,cW,wW]
       split
       ·rfl
       ·simp only [Wr.ws_app,zwu]
      cases hel:el with
      | nil =>
       have hneg:decide ((((z03.mk 2 nm tg e c bo [] ar).Else.length:Nat):Int) > 0)=false:=rfl
       simp only [hneg,Bool.false_eq_true,if_false,Option.bind_some,List.append_assoc]
       refine .inl ?_
       rw [hel] at fin hS
       refine fin _ ?_
       rw [hS]
       simp only [cL,List.isEmpty_nil,if_true,List.append_nil]
      | cons y r =>
       have hpos:decide ((((z03.mk 2 nm tg e c bo (y::r) ar).Else.length:Nat):Int) > 0)=true:=by show decide ((((y::r).length:Nat):Int) > 0)=true;simp only [List.length_cons,decide_eq_true_eq];omega
       simp only [hpos,if_true]
       rw [hel] at fe fin hS l4 hM
       rw [z89 (by simp;omega)]
       simp only [Option.bind_some,Option.bind_assoc]
       refine Sn.bind (f:=_) fe (.inl ?_)
       rw [z89 (by simp;omega)]
       simp only [Option.bind_some,List.append_assoc]
       refine fin _ ?_
       rw [hS]
       have:(cL (y::r)).isEmpty=false:=by simp only [cL];rfl
       simp only [this,Bool.false_eq_true,if_false]
     have z2:(k==2)=false:=by simpa using h2
     simp only [z2,Bool.false_eq_true,if_false] at hgS ⊢
     by_cases h3:k=3
     ·subst h3
      simp only [show ((3:Int)==3)=true from rfl,if_true,Bool.and_eq_true] at hgS ⊢
      obtain ⟨g1,g2⟩:=hgS
      have fb:=(zmk (n:=n) (ih bo (by omega) (by omega) g2 ob) (by omega)).mono (show 2*szL (cL bo)+1≤2*szL (cL l) - 1 by omega)
      rw [z89 (by simp;omega)]
      simp only [Option.bind_some]
      rw [zjx g1 (by omega)]
      simp only [Option.bind_some]
      rw [z89 (by simp;omega)]
      simp only [Option.bind_some,Option.bind_assoc]
      refine Sn.bind (f:=_) fb (.inl ?_)
      rw [z89 (by simp;omega)]
      simp only [Option.bind_some,List.append_assoc]
      refine fin _ ?_
      simp only [stW,cS,sS,show ((3:Int)==1)=false from rfl,show ((3:Int)==2)=false from rfl,show ((3:Int)==3)=true from rfl,Bool.false_eq_true,if_false,if_true,Wr.ws_app,zwu,cW,wW]
     have z3:(k==3)=false:=by simpa using h3
     simp only [z3,Bool.false_eq_true,if_false] at hgS ⊢
     by_cases h4:k=4
     ·subst h4
      simp only [show ((4:Int)==4)=true from rfl,if_true,Bool.and_eq_true] at hgS ⊢
      refine .inl ?_
      rw [z89 (by simp;omega)]
      simp only [Option.bind_some]
      rw [zez hgS.2.2 (by omega)]
      simp only [Option.bind_some]
      rw [z89 (by simp;omega)]
      simp only [Option.bind_some]
      rw [z89 (by simp;omega)]
      simp only [Option.bind_some,List.append_assoc]
      refine fin _ ?_
      simp only [stW,cS,sS,show ((4:Int)==1)=false from rfl,show ((4:Int)==2)=false from rfl,show ((4:Int)==3)=false from rfl,show ((4:Int)==4)=true from rfl,Bool.false_eq_true,if_false,if_true,Wr.ws_app,wN,wW]
      rfl
     have z4:(k==4)=false:=by simpa using h4
     simp only [z4,Bool.false_eq_true,if_false] at hgS ⊢
     by_cases h5:k=5
     ·subst h5
      simp only [show ((5:Int)==5)=true from rfl,if_true,Bool.and_eq_true] at hgS ⊢
      obtain ⟨⟨g1,g2⟩,g3⟩:=hgS
      have hal:=zsn ar
      have hsa:=z022 ar
      have hsa5:sumN (fun x:z2k=>5*(2+szL (cL x.Body))) ar=5*sumN (fun x:z2k=>2+szL (cL x.Body)) ar:=zgo 5 _ ar
      rw [z89 (by simp;omega)]
      simp only [Option.bind_some,Option.bind_assoc]
      have lp:=zqz (n:=n) (H:=2*szL (cL l) - 1) (body:=z8b (z4d n) (z7s n) (.mk 5 nm tg e c bo el ar)) ar (fun _ x=>arW x) (fun x=>5*(2+szL (cL x.Body))) 5000000000000 (fun i acc=>((i:Int),acc)) (fun acc=>.inr acc) (by omega) (fun i x _=>by have:=zr0 x.Body;unfold arW;simp;omega)
       (fun j y ac hy hym hyl hyw hyM=>by
        obtain ⟨o1,o2,o3,z3⟩:=zku oar y hym
        have ga:gAr y=true:=by rw [zws] at g3;exact List.all_eq_true.1 g3 y hym
        unfold gAr at ga
        simp only [Bool.and_eq_true] at ga
        have fb:=(zmk (n:=n) (ih y.Body (by omega) (by omega) ga.2.2 o3) (by omega)).mono (show 2*szL (cL y.Body)+1≤2*szL (cL l) - 1 by omega)
        have lb:=zr0 y.Body
        unfold z8b
        rw [if_pos (by show decide ((j:Int)<(ar.length:Int))=true;simpa using hyl)]
        dsimp only [z03.Arms]
        simp only [hy,Option.bind_eq_bind,Option.bind_some,hyw]
        rw [z89 (by simp;omega)]
        simp only [Option.bind_some]
        refine Sn.bind (f:=_) fb (.inl ?_)
        rw [z89 (by simp;omega)]
        simp only [Option.bind_some,List.append_assoc]
        rfl)
       (fun ac=>by unfold z8b;rw [if_neg (by simp [z03.Arms])]) ar 0 (acc++[ByteArray.mk #[114,101,99,118],nm,ByteArray.mk #[123]]) rfl (by omega) (by simp;omega)
      refine Sn.bind (f:=_) lp (.inl ?_)
      have hlen:(z9b (fun _ x=>arW x) 0 ar).length≤5*szA (cA ar):=by
       rw [← zv8];exact z01j _ _ _
      simp only [Sum.elim_inr]
      rw [z89 (by simp;omega)]
      simp only [Option.bind_some,List.append_assoc]
      refine fin _ ?_
      simp only [stW,cS,sS,show ((5:Int)==1)=false from rfl,show ((5:Int)==2)=false from rfl,show ((5:Int)==3)=false from rfl,show ((5:Int)==4)=false from rfl,show ((5:Int)==5)=true from rfl,Bool.false_eq_true,if_false,if_true,Wr.ws_app,zv8 ar 0,wN,wW,wM]
      rfl
     have z5:(k==5)=false:=by simpa using h5
     simp only [z5,Bool.false_eq_true,if_false] at hgS ⊢
     by_cases h6:k=6
     ·subst h6
      simp only [show ((6:Int)==6)=true from rfl,if_true] at hgS ⊢
      refine .inl ?_
      rw [z89 (by simp;omega)]
      simp only [Option.bind_some]
      rw [zjx hgS (by omega)]
      simp only [Option.bind_some]
      rw [z89 (by simp;omega)]
      simp only [Option.bind_some]
      rw [z89 (by simp;omega)]
      simp only [Option.bind_some,List.append_assoc]
      refine fin _ ?_
      simp only [stW,cS,sS,show ((6:Int)==1)=false from rfl,show ((6:Int)==2)=false from rfl,show ((6:Int)==3)=false from rfl,show ((6:Int)==4)=false from rfl,show ((6:Int)==5)=false from rfl,show ((6:Int)==6)=true from rfl,Bool.false_eq_true,if_false,if_true,Wr.ws_app,cW,wW]
     have z6:(k==6)=false:=by simpa using h6
     simp only [z6,Bool.false_eq_true,if_false] at hgS ⊢
     by_cases h7:k=7
     ·subst h7
      refine .inl ?_
      simp only [Int.reduceBEq,if_true]
      rw [z89 (by simp;omega)]
      simp only [Option.bind_some]
      refine fin _ ?_
      simp only [stW,cS,sS,show ((7:Int)==1)=false from rfl,show ((7:Int)==2)=false from rfl,show ((7:Int)==3)=false from rfl,show ((7:Int)==4)=false from rfl,show ((7:Int)==5)=false from rfl,show ((7:Int)==6)=false from rfl,show ((7:Int)==7)=true from rfl,Bool.false_eq_true,if_false,if_true,Wr.ws_app,wN,wW]
      try rfl
     have z7:(k==7)=false:=by simpa using h7
     simp only [z7,Bool.false_eq_true,if_false] at hgS
     )
    (fun acc=>by unfold z8c;rw [if_neg (by simp)]) l 0 [] rfl (by omega) (by simp;omega)
   rw [List.nil_append,← z020] at h
   have t2:=(Sn.bind (f:=Sum.elim (fun _=>none) (fun j1=>some j1)) h (t:=lW l) (.inl rfl)).up
   exact t2.mono (by omega)
theorem zv9 {l:List z03} (hg:gL l=true) (ho:okL (cL l)) (h:szL (cL l)≤400000000000):zgd l=some (lW l):=Sn.unf fun n=>zsr _ l (Nat.le_refl _) h hg ho n
def zm1 (p:z31):Bool:=!dq (dL p.Body) 0
theorem zih {β:Type} {g:Nat→β→Wr}:∀ {l:List β} {i:Nat},(∀ i,∀ x∈l,(g i x).dp=false)→(zbb g i l).dp=false
 | [],i,h=>rfl
 | x::r,i,h=>by simp only [zbb,Wr.dp_app,h i x List.mem_cons_self,zih fun i y hy=>h i y (List.mem_cons_of_mem _ hy),Bool.or_self]
theorem z099 (s:z0i) (hg:gSys s=true):(sSys (cSys s)).dp=!s.Procs.all zm1:=by
 unfold gSys at hg
 simp only [Bool.and_eq_true,List.all_eq_true] at hg
 unfold sSys
 simp only [cSys,Wr.dp_app]
 have e1:(zbb (fun _=>sCh) 0 (s.Chans.map cCh)).dp=false:=zih fun i c hc=>by
  have ht:(zbb wTag 0 c.Tags).dp=false:=zih fun i x _=>by unfold wTag;split <;> simp [wN,wW]
  unfold sCh
  simp only [Wr.dp_app,ht]
  cases kindOk c.Kind <;> simp [wW,wN,wI,wM]
 have e2:(zbb (fun _=>sR) 0 (s.Rules.map cRu)).dp=false:=zih fun i c hc=>by
  have ht:(zbb zqp 0 c.Moves).dp=false:=zih fun i x _=>by simp [zqp,wI,wN,wW]
  unfold sR
  simp only [Wr.dp_app,ht]
  simp [wW,wN]
 have e3:(zbb (fun _=>sP) 0 (s.Procs.map cPr)).dp=!s.Procs.all zm1:=by
  have:∀ (l:List z31) (i:Nat),(∀ p∈l,gP p=true)→(zbb (fun _=>sP) i (l.map cPr)).dp=!l.all zm1:=by
   intro l
   induction l with
   | nil=>intro i _;rfl
   | cons p r ih =>
    intro i h
    have hp:=h p List.mem_cons_self
    unfold gP at hp
    simp only [Bool.and_eq_true] at hp
    have ht:(zbb wVar 0 p.Vars).dp=false:=zih fun i x _=>by simp [wVar,wN,wW]
    have hd:(sP (cPr p)).dp=!zm1 p:=by
     simp only [sP,cPr,Wr.dp_app,ht,z01v p.Body 0 hp.2.1,zm1]
     simp [wW,wN]
    simp only [List.map_cons,zbb,Wr.dp_app,hd,ih (i+1) (fun q hq=>h q (List.mem_cons_of_mem _ hq)),List.all_cons,Bool.not_and]
  exact this s.Procs 0 hg.2.2
 rw [e1,e2,e3];rfl
def tagG (i:Nat) (t:ByteArray):List ByteArray:=if i=0 then [t] else [ByteArray.mk #[44],t]
theorem z060 (i:Nat) (t:ByteArray):(wTag i t).ws=tagG i t:=by unfold wTag tagG;split <;> rfl
def chG (c:z3l):List ByteArray:=[ByteArray.mk #[99,104,97,110],c.Name,z04l c.Kind,zfy c.Size,ByteArray.mk #[102,114,111,109],c.From,ByteArray.mk #[116,111],c.To,ByteArray.mk #[123]]++(z9b tagG 0 c.Tags++[ByteArray.mk #[125],ByteArray.mk #[59]])
theorem z09a {c:z3l} (h:kindOk c.Kind=true):(sCh (cCh c)).ws=chG c:=by
 unfold sCh chG
 simp only [Wr.ws_app,cCh,h,if_true,zfh,z7f (g':=tagG) c.Tags 0 (fun i x _=>z060 i x)]
 simp [wW,wN,wI,wM]
def moG (m:z6c):List ByteArray:=[zfy m.From,m.Tag,zfy m.To,ByteArray.mk #[59]]
def ruG (r:z4t):List ByteArray:=[ByteArray.mk #[114,117,108,101],r.Chan,ByteArray.mk #[123]]++(z9b (fun _ m=>moG m) 0 r.Moves++[ByteArray.mk #[125]])
theorem z09b (r:z4t):(sR (cRu r)).ws=ruG r:=by
 unfold sR ruG
 have h:z9b (fun i x=>(zqp i (cMo x)).ws) 0 r.Moves=z9b (fun _ m=>moG m) 0 r.Moves:=z7f _ _ (fun i x _=>rfl)
 simp only [Wr.ws_app,cRu,zfh,zg1,h]
 simp [wW,wN]
def vaG (v:ByteArray):List ByteArray:=[ByteArray.mk #[118,97,114],v,ByteArray.mk #[59]]
def prG (p:z31):List ByteArray:=[ByteArray.mk #[112,114,111,99],p.Name,ByteArray.mk #[123]]++(z9b (fun _ v=>vaG v) 0 p.Vars++(lW p.Body++[ByteArray.mk #[125]]))
theorem z0cf (p:z31):(sP (cPr p)).ws=prG p:=by
 unfold sP prG
 have h:z9b (fun i x=>(wVar i x).ws) 0 p.Vars=z9b (fun _ v=>vaG v) 0 p.Vars:=z7f _ _ (fun i x _=>rfl)
 simp only [Wr.ws_app,cPr,zfh,h,lW]
 simp [wW,wN]
theorem z09c {s:z0i} (hg:gSys s=true):(sSys (cSys s)).ws=z9b (fun _ c=>chG c) 0 s.Chans++(z9b (fun _ r=>ruG r) 0 s.Rules++z9b (fun _ p=>prG p) 0 s.Procs):=by
 unfold gSys at hg
 simp only [Bool.and_eq_true,List.all_eq_true] at hg
 unfold sSys
 simp only [Wr.ws_app,cSys,zfh,zg1]
 rw [z7f (g':=fun _ c=>chG c) s.Chans 0 (fun i c hc=>z09a (by have:=hg.1 c hc;unfold gCh at this;simp only [Bool.and_eq_true] at this;exact this.2.2.2.1)),
  z7f (g':=fun _ r=>ruG r) s.Rules 0 (fun i r _=>z09b r),z7f (g':=fun _ p=>prG p) s.Procs 0 (fun i p _=>z0cf p)]
theorem z04y (l:List ByteArray):sumN (fun _:ByteArray=>2) l=2*l.length:=zd0 2 l
theorem z07s {s:z0i} (ho:zye (cSys s)) (hs:zba (cSys s)≤400000000000):zej s=some (endW (sSys (cSys s))):=by
 obtain ⟨l1,l2,l3⟩:=lens s
 unfold zej
 rw [z093 ho hs]
 simp only [Option.bind_eq_bind,Option.bind_some]
 have hbad:=z04v s
 cases hg:gSys s with
 | false =>
  rw [hg] at hbad
  simp only [Bool.not_false,if_true]
  unfold endW
  rw [hbad];rfl
 | true =>
  rw [hg] at hbad
  have hdp:=z099 s hg
  have hws:=z09c hg
  have hlen:=z04n (cSys s)
  have hg':=hg
  unfold gSys at hg'
  simp only [Bool.and_eq_true,List.all_eq_true] at hg'
  obtain ⟨gc,gr,gp⟩:=hg'
  simp only [Bool.not_true,Bool.false_eq_true,if_false]
  rw [zau (body:=zbq s) s.Procs zm1 ([],6) (by omega) (fun i x h0 h1 hm hlt hw=>by
   obtain ⟨o1,o2,o3⟩:=z091 ho hm
   have o3':okL (cL x.Body):=o3
   have hz:=z092 hm
   have gx:=gp x hm
   unfold gP at gx
   simp only [Bool.and_eq_true] at gx
   unfold zbq
   rw [if_pos (by simpa using hlt),h1]
   simp only [Option.bind_eq_bind,Option.bind_some]
   rw [z04x gx.2.1 o3' (by omega)]
   simp only [Option.bind_some,hw,zm1,dq,dpB0]
   have q1:decide ((((dL x.Body).1:Nat):Int) > 24)=decide (24<(dL x.Body).1):=decide_eq_decide.mpr (by omega)
   have q2:decide ((((dL x.Body).2:Nat):Int) > 24)=decide (24<(dL x.Body).2):=decide_eq_decide.mpr (by omega)
   rw [q1,q2]
   cases decide (24<(dL x.Body).1) <;> cases decide (24<(dL x.Body).2) <;> rfl) (by unfold zbq;rw [if_neg (by simp)])]
  simp only [Option.bind_some]
  cases hd:s.Procs.all zm1 with
  | false =>
   rw [hd] at hdp
   simp only [Bool.false_eq_true,if_false,Sum.elim_inl]
   unfold endW
   rw [hbad,hdp];rfl
  | true =>
   rw [hd] at hdp
   simp only [if_true,Sum.elim_inr]
   have s1:=zgo 5 szCh (cSys s).Chans
   have s2:=zgo 5 szR (cSys s).Rules
   have s3:=zgo 5 szP (cSys s).Procs
   have hsz:zba (cSys s)=sumN szCh (cSys s).Chans+sumN szR (cSys s).Rules+sumN szP (cSys s).Procs:=rfl
   have t1:sumN (fun c:z3l=>5*szCh (cCh c)) s.Chans=5*sumN szCh (cSys s).Chans:=by rw [← s1];exact (zkt (fun c=>5*szCh c) cCh s.Chans).symm
   have t2:sumN (fun c:z4t=>5*szR (cRu c)) s.Rules=5*sumN szR (cSys s).Rules:=by rw [← s2];exact (zkt (fun c=>5*szR c) cRu s.Rules).symm
   have t3:sumN (fun c:z31=>5*szP (cPr c)) s.Procs=5*sumN szP (cSys s).Procs:=by rw [← s3];exact (zkt (fun c=>5*szP c) cPr s.Procs).symm
   have chl:∀ c∈s.Chans,(chG c).length≤5*szCh (cCh c):=fun c hc=>by
    rw [← z09a (by have:=gc c hc;unfold gCh at this;simp only [Bool.and_eq_true] at this;exact this.2.2.2.1)];exact zuz _
   have rul:∀ c:z4t,(ruG c).length≤5*szR (cRu c):=fun c=>by rw [← z09b];exact z01l _
   have prl:∀ c:z31,(prG c).length≤5*szP (cPr c):=fun c=>by rw [← z0cf];exact z05u _
   rw [ze9 (body:=zbs s) s.Chans (fun _ c=>chG c) (fun c=>5*szCh (cCh c)) 4000000000000 (fun acc=>.inr acc) (by omega) (fun i x hx=>chl x hx)
    (fun i x acc hx hm hlt hw hM=>by
     have gx:=gc x hm
     unfold gCh at gx
     simp only [Bool.and_eq_true] at gx
     have hz2:szCh (cCh x)=3+x.Tags.length:=rfl
     have htg:(z9b tagG 0 x.Tags).length≤2*x.Tags.length:=by
      have:=zwo x.Tags 0
      rwa [zfh,z7f (g':=tagG) x.Tags 0 (fun i x _=>z060 i x)] at this
     have ht:=ze9 (body:=zbr x) x.Tags tagG (fun _=>2) 5000000000000 (fun acc=>.inr acc) (by omega) (fun i y _=>by unfold tagG;split <;> simp)
      (fun j y ac hy hym hyl hyw hyM=>by
       unfold zbr
       rw [if_pos (by simpa using hyl)]
       simp only [hy,Option.bind_eq_bind,Option.bind_some,hyw]
       by_cases hj:j=0
       ·subst hj
        rw [if_neg (by simp),z89 (by simp;omega)]
        rfl
       ·rw [if_pos (by simp;omega),z89 (by simp;omega)]
        simp only [Option.bind_some]
        rw [z89 (by simp;omega)]
        unfold tagG
        rw [if_neg hj]
        simp)
      (fun ac=>by unfold zbr;rw [if_neg (by simp)]) (acc++[ByteArray.mk #[99,104,97,110],x.Name,z04l x.Kind,zfy x.Size,ByteArray.mk #[102,114,111,109],x.From,ByteArray.mk #[116,111],x.To,ByteArray.mk #[123]]) (by rw [z04y];simp;omega)
     unfold zbs
     rw [if_pos (by simpa using hlt)]
     simp only [hx,Option.bind_eq_bind,Option.bind_some]
     rw [z04m gx.2.2.2.1,zqy gx.2.2.2.2.1]
     simp only [Option.bind_some]
     rw [z89 (by simp;omega)]
     simp only [Option.bind_some]
     rw [ht]
     simp only [Option.bind_some,Sum.elim_inr]
     rw [z89 (by simp;omega)]
     simp only [Option.bind_some,hw,chG,List.append_assoc])
    (fun acc=>by unfold zbs;rw [if_neg (by simp)]) [] (by simp;omega)]
   simp only [Option.bind_some,Sum.elim_inr,List.nil_append]
   have c1:(z9b (fun _ c=>chG c) 0 s.Chans).length≤5*sumN szCh (cSys s).Chans:=by
    have:=congrArg List.length hws
    have h1:=zcg (g:=fun _=>sCh) (c:=fun c=>5*szCh c) (l:=(cSys s).Chans) (i:=0) (fun i x _=>zuz x)
    rw [zfh,s1] at h1
    simp only [cSys,zg1] at h1
    rw [z7f (g':=fun _ c=>chG c) s.Chans 0 (fun i c hc=>z09a (by have:=gc c hc;unfold gCh at this;simp only [Bool.and_eq_true] at this;exact this.2.2.2.1))] at h1
    exact h1
   have c2:(z9b (fun _ r=>ruG r) 0 s.Rules).length≤5*sumN szR (cSys s).Rules:=by
    have h1:=zcg (g:=fun _=>sR) (c:=fun c=>5*szR c) (l:=(cSys s).Rules) (i:=0) (fun i x _=>z01l x)
    rw [zfh,s2] at h1
    simp only [cSys,zg1] at h1
    rw [z7f (g':=fun _ r=>ruG r) s.Rules 0 (fun i r _=>z09b r)] at h1
    exact h1
   rw [ze9 (body:=zbu s) s.Rules (fun _ c=>ruG c) (fun c=>5*szR (cRu c)) 4000000000000 (fun acc=>.inr acc) (by omega) (fun i x hx=>rul x)
    (fun i x acc hx hm hlt hw hM=>by
     have gx:=gr x hm
     unfold gR at gx
     simp only [Bool.and_eq_true,List.all_eq_true] at gx
     have hz2:szR (cRu x)=1+(x.Moves.map cMo).length:=rfl
     rw [List.length_map] at hz2
     have hml:(z9b (fun _ m=>moG m) 0 x.Moves).length≤4*x.Moves.length:=by
      have:=zsk (x.Moves.map cMo) 0
      have h:z9b (fun i x=>(zqp i (cMo x)).ws) 0 x.Moves=z9b (fun _ m=>moG m) 0 x.Moves:=z7f _ _ (fun i x _=>rfl)
      rwa [zfh,zg1,List.length_map,h] at this
     have ht:=ze9 (body:=zbt s ((i:Int),acc)) x.Moves (fun _ m=>moG m) (fun _=>4) 5000000000000 (fun acc=>.inr acc) (by omega) (fun i y _=>by simp [moG])
      (fun j y ac hy hym hyl hyw hyM=>by
       have gy:=gx.2 y hym
       unfold gMo at gy
       simp only [Bool.and_eq_true] at gy
       unfold zbt
       simp only [hx,Option.bind_eq_bind,Option.bind_some]
       rw [if_pos (by simpa using hyl)]
       simp only [hy,Option.bind_some]
       rw [zqy gy.1,zqy gy.2.1]
       simp only [Option.bind_some]
       rw [z89 (by simp;omega)]
       simp only [Option.bind_some,hyw,moG])
      (fun ac=>by unfold zbt;simp only [hx,Option.bind_eq_bind,Option.bind_some];rw [if_neg (by simp)]) (acc++[ByteArray.mk #[114,117,108,101],x.Chan,ByteArray.mk #[123]]) (by rw [zd0 4];simp;omega)
     unfold zbu
     rw [if_pos (by simpa using hlt)]
     simp only [hx,Option.bind_eq_bind,Option.bind_some]
     rw [z89 (by simp;omega)]
     simp only [Option.bind_some]
     rw [ht]
     simp only [Option.bind_some,Sum.elim_inr]
     rw [z89 (by simp;omega)]
     simp only [Option.bind_some,hw,ruG,List.append_assoc])
    (fun acc=>by unfold zbu;rw [if_neg (by simp)]) _ (by omega)]
   simp only [Option.bind_some,Sum.elim_inr]
   rw [ze9 (body:=zbw s) s.Procs (fun _ c=>prG c) (fun c=>5*szP (cPr c)) 4000000000000 (fun acc=>.inr acc) (by omega) (fun i x hx=>prl x)
    (fun i x acc hx hm hlt hw hM=>by
     obtain ⟨o1,o2,o3⟩:=z091 ho hm
     have o3':okL (cL x.Body):=o3
     have hz:=z092 hm
     have gx:=gp x hm
     unfold gP at gx
     simp only [Bool.and_eq_true,List.all_eq_true] at gx
     have hz2:szP (cPr x)=1+x.Vars.length+szL (cL x.Body):=rfl
     have hvl:(z9b (fun _ v=>vaG v) 0 x.Vars).length≤3*x.Vars.length:=by
      have:=zwn x.Vars 0
      have h:z9b (fun i x=>(wVar i x).ws) 0 x.Vars=z9b (fun _ v=>vaG v) 0 x.Vars:=z7f _ _ (fun i x _=>rfl)
      rwa [zfh,h] at this
     have hbl:=z01z x.Body
     have ht:=ze9 (body:=zbv x) x.Vars (fun _ v=>vaG v) (fun _=>3) 5000000000000 (fun acc=>.inr acc) (by omega) (fun i y _=>by simp [vaG])
      (fun j y ac hy hym hyl hyw hyM=>by
       unfold zbv
       rw [if_pos (by simpa using hyl)]
       simp only [hy,Option.bind_eq_bind,Option.bind_some]
       rw [z89 (by simp;omega)]
       simp only [Option.bind_some,hyw,vaG])
      (fun ac=>by unfold zbv;rw [if_neg (by simp)]) (acc++[ByteArray.mk #[112,114,111,99],x.Name,ByteArray.mk #[123]]) (by rw [zd0 3];simp;omega)
     unfold zbw
     rw [if_pos (by simpa using hlt)]
     simp only [hx,Option.bind_eq_bind,Option.bind_some]
     rw [z89 (by simp;omega)]
     simp only [Option.bind_some]
     rw [ht]
     simp only [Option.bind_some,Sum.elim_inr]
     rw [zv9 gx.2.1 o3' (by omega)]
     simp only [Option.bind_some]
     rw [z89 (by simp;omega)]
     simp only [Option.bind_some]
     rw [z89 (by simp;omega)]
     simp only [Option.bind_some,hw,prG,List.append_assoc])
    (fun acc=>by unfold zbw;rw [if_neg (by simp)]) _ (by rw [List.length_append];omega)]
   simp only [Option.bind_some,Sum.elim_inr,List.append_assoc]
   rw [← hws]
   unfold endW
   rw [hbad,hdp]
   simp only [Bool.not_true,Bool.false_eq_true,if_false]
   by_cases h2:2000<(sSys (cSys s)).ws.length
   ·rw [if_pos h2,if_pos (by simp;omega)]
   ·rw [if_neg h2,if_neg (by simp;omega)]
theorem z0cg {β O:Type} {body:Int→Option (Sum Int (Sum O Unit))} {n H:Nat} (l:List β) (r:O) (hlen:l.length≤4611686018427387904)
  (hs:∀ (i:Nat) (x:β),idx l (i:Int)=some x→x∈l→i<l.length→IntKind.i64.wrap ((i:Int)+1)=((i+1:Nat):Int)→Sn n H (body (i:Int)) (.inl ((i+1:Nat):Int)))
  (he:body (l.length:Int)=some (.inr (.inr ()))):Sn n H (iter body 0) (.inr ()):=by
 have h:=zqa (n:=n) (H:=H) l (fun _=>true) r hlen (fun i x h0 h1 h2 h3 h4=>by simpa using hs i x h1 h2 h3 h4) he
 have e:(l.all fun _=>true)=true:=by simp
 rw [e] at h
 simpa using h
theorem zmd {β O:Type} {body:Int→Option (Sum Int (Sum O Unit))} (l:List β) (r:O) (hlen:l.length≤4611686018427387904)
  (hs:∀ (i:Nat) (x:β),idx l (i:Int)=some x→x∈l→i<l.length→IntKind.i64.wrap ((i:Int)+1)=((i+1:Nat):Int)→body (i:Int)=some (.inl ((i+1:Nat):Int)))
  (he:body (l.length:Int)=some (.inr (.inr ()))):iter body 0=some (.inr ()):=by
 rcases z0cg (n:=0) (H:=0) l r hlen (fun i x h1 h2 h3 h4=>.inl (hs i x h1 h2 h3 h4)) he with h|⟨_,h⟩
 ·exact h
 ·omega
theorem zw7 {n:Int}:(n != n)=false:=by simp
theorem zse:∀ l:List z06,l.length≤szEs l
 | []=>by simp
 | e::r=>by have:=zse r;have:=zan e;simp only [szEs,List.length_cons];omega
theorem zsf:∀ {l:List z06} {x:z06},x∈l→szE x≤szEs l
 | y::r,x,h=>by
  rcases List.mem_cons.1 h with rfl|h
  ·simp only [szEs];omega
  ·have:=zsf h;simp only [szEs];omega
theorem z03b:∀ l:List z05,l.length≤szL l:=zuy
theorem zw5:∀ {l:List z05} {x:z05},x∈l→szS x+1≤szL l
 | y::r,x,h=>by
  have:=z6k r
  rcases List.mem_cons.1 h with rfl|h
  ·simp only [szL];omega
  ·have:=zw5 h;simp only [szL];omega
theorem zw6:∀ {l:List z0y} {x:z0y},x∈l→szL x.Body+3≤szA l
 | .mk t v b::r,x,h=>by
  have:=zju r
  rcases List.mem_cons.1 h with rfl|h
  ·simp only [szA];show szL b+3≤_;omega
  ·have:=zw6 h;simp only [szA];omega
theorem zsg {l:List ByteArray} (h:l.length≤400000000000):z4m l l=some true:=by
 unfold z4m
 rw [zmd (body:=z42 l l) l false (by omega) (fun i x hx hm hlt hw=>by
  unfold z42
  rw [if_pos (by simpa using hlt),hx]
  simp [hw]) (by unfold z42;rw [if_neg (by simp)])]
 simp
theorem zyd {l:List z4j} (h:l.length≤400000000000):zhf l l=some true:=by
 unfold zhf
 rw [zmd (body:=zc0 l l) l false (by omega) (fun i x hx hm hlt hw=>by
  unfold zc0
  rw [if_pos (by simpa using hlt),hx]
  simp [hw]) (by unfold zc0;rw [if_neg (by simp)])]
 simp
end Go.Proofs.YtokjbpmjdcbogaaGreatDoor.Abs.Wri
