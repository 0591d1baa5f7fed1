/- What lexing is, over lists of bytes, and small facts on bytes and rounds; no program in sight. -/
import Derived.Test.YtimbigpplbbjaaaGreatDoorHandA
import Derived.Test.YtimbigpplbbjaaaGreatDoorAbsW
import Derived.Test.YtimbigpplbbjaaaGreatDoorGwD
namespace Go.Proofs.YtimbigpplbbjaaaGreatDoor.Abs
open Go Go.RowKit
set_option linter.unusedVariables false
set_option linter.unusedSimpArgs false
theorem z94 {X O:Type} {body:X→Option (Sum X O)} {x y:X} (h:body x=some (.inl y)):iter body x=iter body y:=by rw [zce,h];rfl
theorem z4l {X O:Type} {body:X→Option (Sum X O)} {x:X} {r:O} (h:body x=some (.inr r)):iter body x=some r:=by rw [zce,h];rfl
theorem z7v {α:Type} {B:Nat} {L M:List α} (h:(L.length+M.length)*B≤140737488355328):app B L M=some (L++M):=by unfold app;rw [if_pos h]
theorem zb4 {α:Type} {l:List α} {i:Nat} (h:i<l.length):idx l (i:Int)=some l[i]:=by
 unfold idx;rw [if_pos (by omega)];simp [h]
theorem z8f (s:ByteArray):s.data.toList.length=s.size:=by rw [Array.length_toList];rfl
theorem z08w (s:ByteArray) (i:Nat) (h:i<s.data.toList.length):bt s (i:Int)=((s.data.toList[i]).toNat:Int):=by
 have h':i<s.size:=by rw [← z8f];exact h
 have:=zz8 s (i:Int) (by simpa using h')
 rw [← this];simp;rfl
theorem ext_list (s:ByteArray) (a b:Nat):(s.extract a b).data.toList=(s.data.toList.take b).drop a:=by simp [List.drop_take]
theorem zvd (s:ByteArray) (a:Nat):(s.extract a s.size).data.toList=s.data.toList.drop a:=by
 rw [ext_list,List.take_of_length_le (by rw [z8f];omega)]
theorem z02e {s t:ByteArray} (h:s.data.toList=t.data.toList):s=t:=ByteArray.ext (Array.toList_inj.mp h)
abbrev Bs:=List UInt8
def isL (b:UInt8):Bool:=decide (97≤b.toNat)&&decide (b.toNat≤122)
def isD (b:UInt8):Bool:=decide (48≤b.toNat)&&decide (b.toNat≤57)
def isA (b:UInt8):Bool:=isL b || isD b
def isB (b:UInt8):Bool:=b==32 || b==10
def runL (l:Bs):Nat:=(l.takeWhile isA).length
def resv:List Bs:=[[99,104,97,110],[98,108,111,99,107],[100,114,111,112],[108,111,115,115,121],[102,114,111,109],[116,111],[114,117,108,101],[112,114,111,99],[118,97,114],[105,102],[101,108,115,101],[119,104,105,108,101],[115,101,110,100],[114,101,99,118],[97,115,115,101,114,116],[105,110,112,117,116]]
def dval (l:Bs):Nat:=l.foldl (fun a b=>10*a+(b.toNat - 48)) 0
def z003 (t:Bs):Bool:=decide (t.length≤10)&&!(decide (1<t.length)&&t.head?==some 48)&&t.all isD&&decide (dval t≤2147483647)
def ones:Bs:=[123,125,40,41,59,44,46,61,60,62,43,45,42,47,37]
def twos:Bs:=[61,33,60,62]
def zoq (l:Bs):Nat :=
 if l[1]?=some 61∧l.head?∈twos.map some then 2 else if l.head?∈ones.map some then 1 else 0
structure W where
 kind:Int
 len:Nat
 num:Nat
def zmx (l:Bs):Except Int W :=
 match l with
 | []=>.error 2
 | b::_ =>
  if isL b then (if 12<runL l then .error 3 else .ok ⟨if l.take (runL l)∈resv then 4 else 1,runL l,0⟩)
  else if isD b then (if z003 (l.take (runL l)) then .ok ⟨2,runL l,dval (l.take (runL l))⟩ else .error 3)
  else if zoq l=0 then .error 2 else .ok ⟨3,zoq l,0⟩
theorem zpc (b:UInt8) (r:Bs):zmx (b::r) =
  if isL b then (if 12<runL (b::r) then .error 3 else .ok ⟨if (b::r).take (runL (b::r))∈resv then 4 else 1,runL (b::r),0⟩)
  else if isD b then (if z003 ((b::r).take (runL (b::r))) then .ok ⟨2,runL (b::r),dval ((b::r).take (runL (b::r)))⟩ else .error 3)
  else if zoq (b::r)=0 then .error 2 else .ok ⟨3,zoq (b::r),0⟩:=rfl
structure Tok where
 kind:Int
 text:Bs
 num:Nat
 at_:Nat
def lexS (l:Bs) (p:Nat):List Tok × Option (Nat × Int) :=
 match l with
 | []=>([],none)
 | b::r =>
  if isB b then lexS r (p+1)
  else match zmx (b::r) with
   | .error e=>([],some (p,e))
   | .ok w=>let z:=lexS (r.drop (w.len - 1)) (p+w.len);(⟨w.kind,(b::r).take w.len,w.num,p⟩::z.1,z.2)
termination_by l.length
decreasing_by all_goals (simp;try omega)
def told (size:Nat) (z:List Tok × Option (Nat × Int)):List Tok × Int × Int :=
 match z.2 with
 | some (p,e)=>([],(p:Int),e)
 | none=>if 2000<z.1.length then ([],(size:Int),4) else (z.1,0,0)
theorem ztw (l:Bs):runL l≤l.length:=by
 unfold runL;have:=List.takeWhile_prefix (p:=isA) (l:=l);exact this.length_le
theorem zo6 (b:UInt8) (l:Bs):runL (b::l)=if isA b then runL l+1 else 0:=by
 unfold runL;rw [List.takeWhile_cons];split <;> simp
theorem zqa {b:UInt8} {l:Bs} (h:isA b=true):0<runL (b::l):=by rw [zo6,if_pos h];omega
theorem zve (l:Bs):zoq l≤l.length:=by
 unfold zoq
 split
 ·rename_i h;have:=(List.getElem?_eq_some_iff.mp h.1).1;omega
 ·split
  ·rename_i h;cases l with
   | nil=>simp at h
   | cons a t=>simp
  ·omega
theorem zrz {l:Bs} {w:W} (h:zmx l=.ok w):0<w.len∧w.len≤l.length:=by
 cases l with
 | nil=>simp [zmx] at h
 | cons b r =>
  simp only [zmx] at h
  split at h
  ·rename_i hb;split at h
   ·cases h
   ·cases h;exact ⟨zqa (by simp [isA,hb]),ztw _⟩
  ·split at h
   ·rename_i hb;split at h
    ·cases h;exact ⟨zqa (by simp [isA,hb]),ztw _⟩
    ·cases h
   ·split at h
    ·cases h
    ·rename_i hz;cases h;exact ⟨by simp;omega,zve _⟩
theorem zvf (p:Nat):lexS [] p=([],none):=by rw [lexS]
theorem zx7 {b:UInt8} (r:Bs) (p:Nat) (h:isB b=true):lexS (b::r) p=lexS r (p+1):=by rw [lexS,if_pos h]
theorem zx8 {b:UInt8} {r:Bs} {p:Nat} {e:Int} (h:isB b=false) (hw:zmx (b::r)=.error e):lexS (b::r) p=([],some (p,e)):=by
 rw [lexS,if_neg (by simp [h]),hw]
theorem z004 {b:UInt8} {r:Bs} {p:Nat} {w:W} (h:isB b=false) (hw:zmx (b::r)=.ok w) :
  lexS (b::r) p=(⟨w.kind,(b::r).take w.len,w.num,p⟩::(lexS ((b::r).drop w.len) (p+w.len)).1,(lexS ((b::r).drop w.len) (p+w.len)).2):=by
 rw [lexS,if_neg (by simp [h]),hw]
 have:=(zrz hw).1
 have e:(b::r).drop w.len=r.drop (w.len - 1):=by
  obtain ⟨n,hn⟩:∃ n,w.len=n+1:=⟨w.len - 1,by omega⟩
  rw [hn];simp
 rw [e]
def zlb (a:Nat) (b:UInt8):Nat:=10*a+(b.toNat - 48)
theorem zvg (l:Bs):∀ a,a*10 ^ l.length≤l.foldl zlb a:=by
 induction l with
 | nil=>intro a;simp
 | cons b r ih =>
  intro a
  have h:=ih (zlb a b)
  simp only [List.foldl_cons,List.length_cons]
  refine Nat.le_trans ?_ h
  rw [Nat.pow_succ,Nat.mul_comm (10 ^ r.length) 10,← Nat.mul_assoc]
  exact Nat.mul_le_mul_right _ (by unfold zlb;omega)
theorem z005 (l:Bs):dval l=l.foldl zlb 0:=rfl
theorem zlc (s:ByteArray) (i:Nat) (h:i<s.data.toList.length):bidx s (i:Int)=some ((s.data.toList[i]).toNat:Int):=by
 have h':i<s.size:=by rw [← z8f];exact h
 unfold bidx
 rw [if_pos (by omega),Int.toNat_natCast,getElem?_pos s i h']
 rfl
theorem z006 {s:ByteArray} {a b:Nat} (h1:a≤b) (h2:b≤s.size):ssub s (a:Int) (b:Int)=some (s.extract a b):=by
 unfold ssub;rw [if_pos ⟨by omega,by omega,by omega⟩];simp
theorem zqb (b:UInt8):zef (b.toNat:Int)=some (isL b):=by
 unfold zef isL
 by_cases h:97≤b.toNat
 ·rw [if_pos (by simp;omega)];simp only [h,decide_true,Bool.true_and];exact congrArg some (decide_eq_decide.mpr (by omega))
 ·rw [if_neg (by simp;omega)];simp only [h,decide_false,Bool.false_and]
theorem ztx (b:UInt8):zga (b.toNat:Int)=some (isD b):=by
 unfold zga isD
 by_cases h:48≤b.toNat
 ·rw [if_pos (by simp;omega)];simp only [h,decide_true,Bool.true_and];exact congrArg some (decide_eq_decide.mpr (by omega))
 ·rw [if_neg (by simp;omega)];simp only [h,decide_false,Bool.false_and]
theorem z08x (p:ByteArray) (hp:p.size≤4194304):∀ (d i:Nat),p.size - i=d→i≤p.size →
  iter (zd0 p) (i:Int)=some (.inr ((i+runL (p.data.toList.drop i):Nat):Int)):=by
 intro d
 induction d with
 | zero =>
  intro i hd hi
  have:i=p.size:=by omega
  refine z4l ?_
  unfold zd0
  rw [if_neg (by simp;omega),List.drop_of_length_le (by rw [z8f];omega)]
  simp [runL]
 | succ d ih =>
  intro i hd hi
  have hl:i<p.data.toList.length:=by rw [z8f];omega
  have e:=List.drop_eq_getElem_cons hl
  have hb:=zlc p i hl
  generalize p.data.toList[i]=b at e hb
  have hw:IntKind.i64.wrap ((i:Int)+1)=((i+1:Nat):Int):=by rw [w64 (by omega) (by omega)];omega
  have IH:=ih (i+1) (by omega) (by omega)
  have hs:(decide ((i:Int)<(p.size:Int)))=true:=by simp;omega
  rw [e,zo6]
  by_cases hA:isA b=true
  ·rw [if_pos hA]
   rw [z94 (y:=((i+1:Nat):Int)) ?_,IH]
   ·congr 2;omega
   ·unfold zd0
    rw [if_pos hs,hb]
    simp only [Option.bind_eq_bind,Option.bind_some,zqb,ztx,hw]
    unfold isA at hA
    cases hL:isL b
    ·rw [hL] at hA;simp only [Bool.false_or] at hA;simp [hA]
    ·simp
  ·rw [if_neg hA]
   refine z4l ?_
   unfold zd0
   rw [if_pos hs,hb]
   simp only [Option.bind_eq_bind,Option.bind_some,zqb,ztx]
   unfold isA at hA
   simp only [Bool.or_eq_true,not_or,Bool.not_eq_true] at hA
   simp [hA.1,hA.2]
theorem z0a8 (p:ByteArray) (hp:p.size≤4194304):zls p=some ((runL p.data.toList:Nat):Int):=by
 have:=z08x p hp p.size 0 (by omega) (by omega)
 unfold zls
 rw [show ((0:Int))=((0:Nat):Int) from rfl,this]
 simp
theorem zx9 (s:ByteArray):zdi s=some (decide (s.data.toList∈resv)):=by
 unfold zdi
 simp only [Go.ByteArray.toList_eq]
 generalize s.data.toList=l
 by_cases hm:l∈resv
 ·have hm2:=hm
  unfold resv at hm2
  simp only [List.mem_cons,List.not_mem_nil,or_false] at hm2
  rcases hm2 with rfl|rfl|rfl|rfl|rfl|rfl|rfl|rfl|rfl|rfl|rfl|rfl|rfl|rfl|rfl|rfl
  all_goals rfl
 ·have hm2:=hm
  unfold resv at hm2
  simp only [List.mem_cons,List.not_mem_nil,or_false,not_or] at hm2
  obtain ⟨h0,h1,h2,h3,h4,h5,h6,h7,h8,h9,h10,h11,h12,h13,h14,h15⟩:=hm2
  simp only [hm,decide_false,beq_iff_eq,h0,h1,h2,h3,h4,h5,h6,h7,h8,h9,h10,h11,h12,h13,h14,h15,if_false]
theorem z065 (s:ByteArray) (hp:s.size≤12):zgb s=some (⟨if s.data.toList∈resv then 4 else 1,s,0,0⟩,0):=by
 unfold zgb
 rw [if_neg (by simp;omega),zx9]
 by_cases hm:s.data.toList∈resv <;> simp [hm]
theorem z08y (l:Bs) (c:UInt8):(0≤Lib.indexByte l c)↔c∈l:=by
 induction l with
 | nil=>simp [Lib.indexByte]
 | cons b r ih =>
  simp only [Lib.indexByte]
  have hge:=Lib.indexByte_ge r c
  by_cases hb:(b==c)=true
  ·simp [(beq_iff_eq.mp hb).symm]
  ·have hb':¬ b=c:=by simpa using hb
   simp only [hb,Bool.false_eq_true,if_false]
   by_cases hr:(Lib.indexByte r c==-1)=true
   ·simp only [hr,if_true]
    have:¬ (0≤Lib.indexByte r c):=by have:=beq_iff_eq.mp hr;omega
    have:¬ c∈r:=fun h=>this (ih.mpr h)
    simp [this,Ne.symm hb']
   ·simp only [hr,Bool.false_eq_true,if_false]
    have:¬ Lib.indexByte r c=-1:=by simpa using hr
    have h2:c∈r:=ih.mp (by omega)
    simp [h2];omega
theorem z0a9 (b:UInt8):((b.toNat:Int)).toNat.toUInt8=b:=by simp
theorem z007 (l:Bs) (c:UInt8):∃ z,zt5 ⟨l.toArray⟩ (c.toNat:Int)=some z∧(decide (z≥0)=decide (c∈l)):=by
 refine ⟨_,rfl,?_⟩
 rw [z0a9]
 exact decide_eq_decide.mpr (z08y l c)
theorem z08z (p:ByteArray) (h0:0<p.size):zki p=some ((zoq p.data.toList:Nat):Int):=by
 have hl0:0<p.data.toList.length:=by rw [z8f];omega
 have hb0:=zlc p 0 hl0
 have e0:p.data.toList.head?=some (p.data.toList[0]):=by rw [List.head?_eq_getElem?];exact List.getElem?_eq_getElem hl0
 generalize p.data.toList[0]=a at e0 hb0
 obtain ⟨z1,hz1,hd1⟩:=z007 ones a
 obtain ⟨z2,hz2,hd2⟩:=z007 twos a
 have ho:(p.data.toList.head?∈ones.map some)↔a∈ones:=by rw [e0];simp
 have ht:(p.data.toList.head?∈twos.map some)↔a∈twos:=by rw [e0];simp
 have hS:zoq p.data.toList=if (p.data.toList[1]?=some 61∧a∈twos) then 2 else if a∈ones then 1 else 0:=by
  unfold zoq;simp only [ht,ho]
 rw [hS]
 unfold zki
 have hz1:zt5 (ByteArray.mk #[123,125,40,41,59,44,46,61,60,62,43,45,42,47,37]) (a.toNat:Int)=some z1:=hz1
 have hz2:zt5 (ByteArray.mk #[61,33,60,62]) (a.toNat:Int)=some z2:=hz2
 have hb0:bidx p 0=some (a.toNat:Int):=hb0
 simp only [hb0,Option.bind_eq_bind,Option.bind_some,hz1,hz2,hd1,hd2]
 by_cases h1:1<p.size
 ·have hl1:1<p.data.toList.length:=by rw [z8f];omega
  have hb1:=zlc p 1 hl1
  have e1:p.data.toList[1]?=some (p.data.toList[1]):=List.getElem?_eq_getElem hl1
  generalize p.data.toList[1]=c at e1 hb1
  have hb1:bidx p 1=some (c.toNat:Int):=hb1
  have hc61:((c.toNat:Int)==61)=decide (c=61):=by
   by_cases hc:c=61
   ·subst hc;rfl
   ·have:¬ ((c.toNat:Int)=61):=by intro h;apply hc;apply UInt8.toNat_inj.mp;have:(61:UInt8).toNat=61:=rfl;omega
    simp [hc,this]
  have hgt:(decide ((p.size:Int) > 1))=true:=by simp;omega
  rw [e1]
  simp only [hgt,if_true,hb1,Option.bind_some,hc61]
  by_cases hc:c=61 <;> by_cases hm:a∈twos <;> by_cases hn:a∈ones <;> simp [hc,hm,hn]
 ·have e1:p.data.toList[1]?=none:=List.getElem?_eq_none (by rw [z8f];omega)
  have hgt:(decide ((p.size:Int) > 1))=false:=by simp;omega
  rw [e1]
  simp only [hgt]
  by_cases hn:a∈ones <;> simp [hn]
theorem z02f (b:UInt8):digs.contains b=isD b:=by
 rw [Bool.eq_iff_iff]
 constructor
 ·intro h
  have h:b∈digs:=by simpa using h
  unfold digs at h
  simp only [List.mem_cons,List.not_mem_nil,or_false] at h
  rcases h with rfl|rfl|rfl|rfl|rfl|rfl|rfl|rfl|rfl|rfl <;> rfl
 ·intro h
  simp only [isD,Bool.and_eq_true,decide_eq_true_eq] at h
  have h2:b.toNat=48∨b.toNat=49∨b.toNat=50∨b.toNat=51∨b.toNat=52∨b.toNat=53∨b.toNat=54∨b.toNat=55∨b.toNat=56∨b.toNat=57:=by omega
  have e:∀ n,b.toNat=n→b=UInt8.ofNat n:=fun n h=>by rw [← h];simp
  rcases h2 with h|h|h|h|h|h|h|h|h|h <;> (rw [e _ h];rfl)
theorem z008 {p:UInt8→Bool} {l:Bs}:l.dropWhile p=[]↔∀ x∈l,p x=true:=by
 induction l with
 | nil=>simp
 | cons b r ih =>
  rw [List.dropWhile_cons]
  by_cases h:p b=true
  ·rw [if_pos h,ih];simp [h]
  ·rw [if_neg h];simp [h]
theorem zvh (l:Bs):(Lib.trimS l digs=[])↔(l.all isD=true):=by
 have hp:(fun b=>digs.contains b)=isD:=funext z02f
 unfold Lib.trimS Lib.trimLeftS Lib.trimRightS
 rw [show (digs.contains ·)=isD from hp]
 constructor
 ·intro h
  rw [z008] at h
  have h2:List.dropWhile isD l.reverse=[]:=by
   cases hm:List.dropWhile isD l.reverse with
   | nil=>rfl
   | cons x m =>
    have h3:=List.head_dropWhile_not isD (l:=l.reverse) (by rw [hm];simp)
    have h4:=h x (by rw [List.mem_reverse,hm];simp)
    simp only [hm,List.head_cons] at h3
    rw [h4] at h3;cases h3
  rw [z008] at h2
  exact List.all_eq_true.mpr fun x hx=>h2 x (by simpa using hx)
 ·intro h
  have h1:List.dropWhile isD l.reverse=[]:=z008.mpr fun x hx=>List.all_eq_true.mp h x (by simpa using hx)
  rw [h1];rfl
theorem z090 (l:Bs) (h:∀ b∈l,isD b=true):∀ acc,acc≤4294967295 →
  Lib.parseUintM 4294967295 acc l=if l.foldl zlb acc≤4294967295 then .ok (l.foldl zlb acc) else .range:=by
 induction l with
 | nil=>intro acc ha;simp [Lib.parseUintM,ha]
 | cons c r ih =>
  intro acc ha
  have hc:=h c List.mem_cons_self
  simp only [isD,Bool.and_eq_true,decide_eq_true_eq] at hc
  have hr:=ih (fun x hx=>h x (List.mem_cons_of_mem _ hx))
  rw [List.foldl_cons]
  simp only [Lib.parseUintM]
  rw [if_pos hc,if_neg (by omega)]
  have es:acc*10+(c.toNat - 48)=zlb acc c:=by unfold zlb;omega
  rw [es]
  by_cases hM:4294967295<zlb acc c
  ·rw [if_pos hM,if_neg]
   have:=zvg r (zlb acc c)
   have hp:1≤10 ^ r.length:=Nat.one_le_pow _ _ (by omega)
   have:=Nat.mul_le_mul_left (zlb acc c) hp
   omega
  ·rw [if_neg hM,hr _ (by omega)]
theorem z009 (c:UInt8) (r:Bs) (h:∀ b∈c::r,isD b=true) :
  Lib.parseIntB 32 (c::r)=if dval (c::r)≤2147483647 then .ok ((dval (c::r):Nat):Int) else .range:=by
 have hc:=h c List.mem_cons_self
 simp only [isD,Bool.and_eq_true,decide_eq_true_eq] at hc
 have hp:=z090 (c::r) h 0 (by omega)
 simp only [Lib.parseIntB]
 rw [if_neg (by omega)]
 unfold Lib.parseUintB
 rw [if_neg (by simp)]
 rw [show (2 ^ 32 - 1:Nat)=4294967295 from rfl,hp,← z005]
 generalize dval (c::r)=v
 have h45:¬ (c.toNat=45):=by omega
 by_cases h1:v≤4294967295
 ·rw [if_pos h1]
  by_cases h2:v≤2147483647
  ·rw [if_pos h2];dsimp only;rw [if_neg (by rintro ⟨_,h⟩;omega),if_neg (by rintro ⟨h,_⟩;exact h45 h),if_neg h45]
  ·rw [if_neg h2];dsimp only;rw [if_pos ⟨h45,by omega⟩]
 ·rw [if_neg h1,if_neg (by omega)]
theorem z02g (c:UInt8) (r:Bs) (hc:isD c=true) (h48:c≠48) (hv:dval (c::r)≤2147483647):(c::r).length≤10:=by
 simp only [isD,Bool.and_eq_true,decide_eq_true_eq] at hc
 have h1:c.toNat≠48:=fun h=>h48 (UInt8.toNat_inj.mp (by rw [h];rfl))
 rw [z005,List.foldl_cons] at hv
 have hg:=zvg r (zlb 0 c)
 have hs:1≤zlb 0 c:=by unfold zlb;omega
 have h2:10 ^ r.length≤2147483647:=by
  have:=Nat.mul_le_mul_right (10 ^ r.length) hs
  omega
 have h3:r.length<10:=by
  refine Decidable.byContradiction fun hn=>?_
  have:10 ^ 10≤10 ^ r.length:=Nat.pow_le_pow_right (by omega) (by omega)
  have:(10:Nat) ^ 10=10000000000:=by decide
  omega
 simp;omega
theorem z02h (s:ByteArray) (c:UInt8) (r:Bs) (e:s.data.toList=c::r) (hc:isD c=true) (hs:s.size≤4194304) :
  znv s=if z003 (c::r) then some (((dval (c::r):Nat):Int),0) else some (0,3):=by
 have hsz:s.size=(c::r).length:=by rw [← e,z8f]
 have hb:=z08w s 0 (by rw [e];simp)
 have hb:bt s 0=(c.toNat:Int):=by simpa [e] using hb
 have h48:(bt s 0=48)↔c=48:=by
  rw [hb];constructor
  ·intro h;exact UInt8.toNat_inj.mp (by have:(48:UInt8).toNat=48:=rfl;omega)
  ·rintro rfl;rfl
 unfold znv z003
 rw [if_pos (by omega),e,hsz]
 have hh:((c::r).head?==some 48)=decide (c=48):=by
  by_cases h:c=48
  ·subst h;rfl
  ·simp [h]
 rw [hh]
 by_cases hall:(c::r).all isD=true
 ·have ht:=(zvh (c::r)).mpr hall
  by_cases h1:1<(c::r).length∧c=48
  ·rw [if_pos (.inr ⟨h1.1,h48.mpr h1.2⟩)]
   rw [if_neg]
   simp only [Bool.and_eq_true,decide_eq_true_eq,Bool.not_eq_true',Bool.and_eq_false_iff,decide_eq_false_iff_not]
   rintro ⟨⟨⟨_,h|h⟩,_⟩,_⟩
   ·exact h h1.1
   ·exact h h1.2
  ·rw [if_neg (by rintro (h|⟨h,h'⟩);exact h ht;exact h1 ⟨h,h48.mp h'⟩),z009 c r (fun b hb=>List.all_eq_true.mp hall b hb)]
   by_cases hv:dval (c::r)≤2147483647
   ·have hl:(c::r).length≤10:=by
     by_cases hz:c=48
     ·have:¬ 1<(c::r).length:=fun h=>h1 ⟨h,hz⟩
      omega
     ·exact z02g c r hc hz hv
    rw [if_pos hv,if_pos]
    simp only [Bool.and_eq_true,hall,decide_eq_true_eq,hv,hl,and_true,true_and,Bool.not_eq_true',Bool.and_eq_false_iff,decide_eq_false_iff_not]
    by_cases hz:c=48
    ·left;exact fun h=>h1 ⟨h,hz⟩
    ·right;exact hz
   ·rw [if_neg hv,if_neg]
    simp only [Bool.and_eq_true,decide_eq_true_eq,hv,and_false,not_false_eq_true]
 ·rw [if_pos (.inl fun h=>hall ((zvh _).mp h)),if_neg]
  intro h
  simp only [Bool.and_eq_true] at h
  exact hall h.1.2
theorem z091 (p:ByteArray) (b:UInt8) (r:Bs) (e:p.data.toList=b::r) (hp:p.size≤4194304) :
  match zmx (b::r) with
  | .ok w=>zgw p=some (⟨w.kind,p.extract 0 w.len,(w.num:Int),0⟩,0)
  | .error c=>∃ x,c≠0∧zgw p=some (x,c):=by
 have hsz:p.size=(b::r).length:=by rw [← e,z8f]
 have h0:0<p.size:=by rw [hsz];simp
 have hb:bidx p 0=some (b.toNat:Int):=by
  have:=zlc p 0 (by rw [e];simp)
  simpa [e] using this
 have hrun:=z0a8 p hp
 rw [e] at hrun
 have hrl:=ztw (b::r)
 have hxl:(p.extract 0 (runL (b::r))).data.toList=(b::r).take (runL (b::r)):=by rw [ext_list,e];simp
 have hxs:(p.extract 0 (runL (b::r))).size=runL (b::r):=by rw [← z8f,hxl,List.length_take];omega
 have hcut:∀ n:Nat,n≤p.size→ssub p 0 (n:Int)=some (p.extract 0 n):=fun n hn=>z006 (Nat.zero_le _) hn
 unfold zgw
 simp only [hb,Option.bind_eq_bind,Option.bind_some,zqb,ztx]
 rw [zpc]
 by_cases hL:isL b=true
 ·rw [if_pos hL,if_pos hL,hrun]
  simp only [Option.bind_some,hcut _ (by omega:runL (b::r)≤p.size)]
  by_cases h12:12<runL (b::r)
  ·rw [if_pos h12]
   refine ⟨⟨0,ByteArray.mk #[],0,0⟩,by decide,?_⟩
   unfold zgb
   rw [if_pos (by simp [hxs];omega)];rfl
  ·rw [if_neg h12,z065 _ (by omega),hxl];rfl
 ·rw [if_neg hL,if_neg hL]
  by_cases hD:isD b=true
  ·have hxe:(p.extract 0 (runL (b::r))).data.toList=b::r.take (runL (b::r) - 1):=by
    rw [hxl]
    have:=zqa (b:=b) (l:=r) (by simp [isA,hD])
    obtain ⟨n,hn⟩:∃ n,runL (b::r)=n+1:=⟨runL (b::r) - 1,by omega⟩
    rw [hn];simp
   have hnum:=z02h (p.extract 0 (runL (b::r))) b _ hxe hD (by omega)
   rw [← hxe,hxl] at hnum
   rw [if_pos hD,if_pos hD,hrun]
   simp only [Option.bind_some,hcut _ (by omega:runL (b::r)≤p.size),hnum]
   by_cases ho:z003 ((b::r).take (runL (b::r)))=true
   ·rw [if_pos ho,if_pos ho];rfl
   ·rw [if_neg ho,if_neg ho];exact ⟨_,by decide,rfl⟩
  ·rw [if_neg hD,if_neg hD,z08z p h0,e]
   have hsl:=zve (b::r)
   simp only [Option.bind_some]
   by_cases hz:zoq (b::r)=0
   ·rw [if_pos hz,if_pos (by simp [hz])]
    exact ⟨_,by decide,rfl⟩
   ·rw [if_neg hz,if_neg (by simpa using hz),hcut _ (by omega)];rfl
def tokT (t:Tok):z0n:=⟨t.kind,⟨t.text.toArray⟩,(t.num:Int),(t.at_:Int)⟩
def finT (size:Nat) (z:List Tok × Option (Nat × Int)):List z0n × Int × Int :=
 ((told size z).1.map tokT,(told size z).2.1,(told size z).2.2)
theorem z02i (size:Nat) (acc:List Tok) (p:Nat) (e:Int):finT size (acc,some (p,e))=([],(p:Int),e):=rfl
theorem z092 (s:ByteArray) (hs:s.size≤4194304):∀ (d i:Nat) (acc:List Tok),s.size - i=d→i≤s.size→acc.length≤i →
  (iter (zd1 s) ((i:Int),acc.map tokT)>>=Sum.elim (fun r=>some r) (fun j1=>if (decide ((j1.length:Int) > 2000)) then (some ([],(s.size:Int),4)) else (some (j1,0,0))))=some (finT s.size (acc++(lexS (s.data.toList.drop i) i).1,(lexS (s.data.toList.drop i) i).2)):=by
 intro d
 induction d using Nat.strongRecOn with
 | _ d ih =>
 intro i acc hd hi ha
 by_cases hlt:i<s.size
 ·have hl:i<s.data.toList.length:=by rw [z8f];omega
  have e:=List.drop_eq_getElem_cons hl
  have hb:=zlc s i hl
  generalize s.data.toList[i]=b at e hb
  have hw:IntKind.i64.wrap ((i:Int)+1)=((i+1:Nat):Int):=by rw [w64 (by omega) (by omega)];omega
  have hs1:(decide ((i:Int)<(s.size:Int)))=true:=by simp;omega
  have h32:((b.toNat:Int)==32)=(b==32):=by
   rw [Bool.eq_iff_iff,beq_iff_eq,beq_iff_eq]
   constructor
   ·intro h;exact UInt8.toNat_inj.mp (by have:(32:UInt8).toNat=32:=rfl;omega)
   ·rintro rfl;rfl
  have h10:((b.toNat:Int)==10)=(b==10):=by
   rw [Bool.eq_iff_iff,beq_iff_eq,beq_iff_eq]
   constructor
   ·intro h;exact UInt8.toNat_inj.mp (by have:(10:UInt8).toNat=10:=rfl;omega)
   ·rintro rfl;rfl
  have hJ:(if (b==32)=true then some true else some (b==10))=some (isB b):=by
   unfold isB;cases (b==32) <;> simp
  have hbody:zd1 s ((i:Int),acc.map tokT)=(if isB b then some (.inl (((i+1:Nat):Int),acc.map tokT)) else
    (ssub s (i:Int) (s.size:Int)>>=fun v3=>zgw v3>>=fun v4=>if (v4.2 != 0) then (some (.inr (.inl ([],(i:Int),v4.2))))
     else (app 40 (acc.map tokT) [(z0n.mk v4.1.Kind v4.1.Text v4.1.Num (i:Int))]>>=fun v5=>some (.inl ((IntKind.i64.wrap ((i:Int)+(v4.1.Text.size:Int))),v5))))):=by
   unfold zd1
   rw [if_pos hs1]
   simp only [hb,Option.bind_eq_bind,Option.bind_some,h32,h10,hw,hJ]
  rw [e]
  by_cases hB:isB b=true
  ·rw [zx7 _ _ hB,z94 (y:=(((i+1:Nat):Int),acc.map tokT)) (by rw [hbody,if_pos hB])]
   exact ih (s.size - (i+1)) (by omega) (i+1) acc rfl (by omega) (by omega)
  ·have hB':isB b=false:=by simpa using hB
   rw [if_neg hB,z006 (by omega) (Nat.le_refl _)] at hbody
   simp only [Option.bind_eq_bind,Option.bind_some] at hbody
   have hpl:(s.extract i s.size).data.toList=b::s.data.toList.drop (i+1):=by rw [zvd,e]
   have hps:(s.extract i s.size).size≤4194304:=by rw [ByteArray.size_extract];omega
   have hwd:=z091 (s.extract i s.size) b _ hpl hps
   cases hw1:zmx (b::s.data.toList.drop (i+1)) with
   | error c =>
    rw [hw1] at hwd
    obtain ⟨x,hc,hE⟩:=hwd
    rw [hE] at hbody
    simp only [Option.bind_some] at hbody
    rw [if_pos (by simpa using hc)] at hbody
    rw [z4l hbody,zx8 hB' hw1,z02i]
    rfl
   | ok w =>
    rw [hw1] at hwd
    have hlen:=zrz hw1
    have hlen2:w.len≤s.size - i:=by
     have:=hlen.2
     rw [← hpl,zvd,List.length_drop,z8f] at this
     exact this
    have hx:(s.extract i s.size).extract 0 w.len=(⟨((b::s.data.toList.drop (i+1)).take w.len).toArray⟩:ByteArray):=by
     refine z02e ?_
     rw [ext_list,hpl];simp
    have hxs:((⟨((b::s.data.toList.drop (i+1)).take w.len).toArray⟩:ByteArray)).size=w.len:=by
     rw [← z8f];simp only [List.length_take]
     omega
    have hd2:(b::s.data.toList.drop (i+1)).drop w.len=s.data.toList.drop (i+w.len):=by
     rw [← e,List.drop_drop]
    rw [hwd] at hbody
    simp only [Option.bind_some] at hbody
    rw [if_neg (by simp),z7v (by simp;omega)] at hbody
    simp only [Option.bind_some] at hbody
    rw [hx,hxs,w64 (by omega) (by omega)] at hbody
    have IH:=ih (s.size - (i+w.len)) (by omega) (i+w.len) (acc++[(⟨w.kind,(b::s.data.toList.drop (i+1)).take w.len,w.num,i⟩:Tok)]) rfl (by omega) (by simp;omega)
    rw [z94 hbody,z004 hB' hw1,hd2]
    simp only [List.map_append,List.map_cons,List.map_nil,List.append_assoc,List.cons_append,List.nil_append] at IH
    rw [← show (((i+w.len:Nat):Int))=(i:Int)+(w.len:Int) by push_cast;rfl]
    exact IH
 ·have hie:i=s.size:=by omega
  have hnil:s.data.toList.drop i=[]:=List.drop_of_length_le (by rw [z8f];omega)
  rw [hnil,zvf]
  rw [z4l (r:=.inr (acc.map tokT)) (by unfold zd1;rw [if_neg (by simp;omega)])]
  simp only [List.append_nil,finT,told,List.length_map,Option.bind_eq_bind,Option.bind_some,Sum.elim_inr]
  by_cases h2:2000<acc.length
  ·rw [if_pos (by simp;omega),if_pos h2];rfl
  ·rw [if_neg (by simp;omega),if_neg h2]
theorem z08v (s:ByteArray) (hs:s.size≤4194304):zhs s=some (finT s.size (lexS s.data.toList 0)):=by
 have:=z092 s hs s.size 0 [] (by omega) (by omega) (by simp)
 unfold zhs
 simpa using this
end Go.Proofs.YtimbigpplbbjaaaGreatDoor.Abs
namespace Go.Proofs.YtimbigpplbbjaaaGreatDoor.Abs.Wri
open Go Go.RowKit
set_option linter.unusedVariables false
set_option linter.unusedSimpArgs false
def Sn {α:Type} (n h:Nat) (x:Option α) (r:α):Prop:=x=some r∨(x=none∧n<h)
theorem Sn.pure {α:Type} {n h:Nat} {x:Option α} {r:α} (e:x=some r):Sn n h x r:=.inl e
theorem Sn.mono {α:Type} {n h h':Nat} {x:Option α} {r:α} (s:Sn n h x r) (hh:h≤h'):Sn n h' x r:=s.imp id fun ⟨a,b⟩=>⟨a,by omega⟩
theorem Sn.bind {α β:Type} {n h:Nat} {x:Option α} {f:α→Option β} {r:α} {t:β} (s:Sn n h x r) (k:Sn n h (f r) t):Sn n h (x>>=f) t:=by
 rcases s with rfl|⟨rfl,hn⟩
 ·exact k
 ·exact .inr ⟨rfl,hn⟩
theorem Sn.up {α:Type} {n h:Nat} {x:Option α} {r:α} (s:Sn n h x r):Sn (n+1) (h+1) x r:=s.imp id fun ⟨a,b⟩=>⟨a,by omega⟩
theorem Sn.unf {α:Type} {f:Nat→Option α} {r:α} {h:Nat} (s:∀ n,Sn n h (f n) r):unf f=some r:=by
 refine z02v h ?_ fun m t hm=>?_
 ·rcases s h with e|⟨_,e⟩
  ·exact e
  ·omega
 ·rcases s m with e|⟨e,_⟩
  ·rw [hm] at e;exact Option.some.inj e
  ·rw [hm] at e;cases e
structure Wr where
 ws:List ByteArray
 bad:Bool
 dp:Bool
def Wr.app (x y:Wr):Wr:=⟨x.ws++y.ws,x.bad || y.bad,x.dp || y.dp⟩
instance:Append Wr:=⟨Wr.app⟩
theorem Wr.app_def (x y:Wr):x++y=⟨x.ws++y.ws,x.bad || y.bad,x.dp || y.dp⟩:=rfl
@[simp] theorem Wr.ws_app (x y:Wr):(x++y).ws=x.ws++y.ws:=rfl
@[simp] theorem Wr.bad_app (x y:Wr):(x++y).bad=(x.bad || y.bad):=rfl
@[simp] theorem Wr.dp_app (x y:Wr):(x++y).dp=(x.dp || y.dp):=rfl
theorem Wr.assoc (x y z:Wr):x++y++z=x++(y++z):=by simp [Wr.app_def,Bool.or_assoc]
def Wr.nil:Wr:=⟨[],false,false⟩
theorem Wr.app_nil (x:Wr):x++Wr.nil=x:=by simp [Wr.app_def,Wr.nil]
def wW (l:List ByteArray):Wr:=⟨l,false,false⟩
def wM (ok:Bool):Wr:=⟨[],!ok,false⟩
def wD (q:Int):Wr:=⟨[],false,decide (q > 24)⟩
def act (a:z02) (x:Wr):z02:=⟨a.f_out++x.ws,a.f_form || x.bad,a.f_deep || x.dp,a.f_blocks,a.f_parens⟩
theorem z2k (a:z02) (x y:Wr):act (act a x) y=act a (x++y):=by simp [act,Wr.app_def,Bool.or_assoc]
@[simp] theorem zda (a:z02) (x:Wr):(act a x).f_blocks=a.f_blocks:=rfl
@[simp] theorem z65 (a:z02) (x:Wr):(act a x).f_parens=a.f_parens:=rfl
theorem zqc (a:z02) (x:Wr):(act a x).f_out=a.f_out++x.ws:=rfl
def zp7 (s:ByteArray):Bool :=
 let v:=finT s.size (lexS s.data.toList 0)
 v.2.2==0&&(v.1.length:Int)==1&&(match v.1 with|t::_=>t.Kind==1&&t.Text.toList==s.toList|[]=>false)
def zom (n:Int):Bool:=decide (n≥0)&&decide (n≤2147483647)
def wN (s:ByteArray):Wr:=⟨[s],!zp7 s,false⟩
def wI (n:Int):Wr:=⟨[zrs n],!zom n,false⟩
def Room (a:z02) (n:Nat):Prop:=a.f_out.length+n≤8796093022208
theorem Room.act {a:z02} {n:Nat} {x:Wr} (h:Room a n) {m:Nat} (hm:x.ws.length+m≤n):Room (act a x) m:=by
 unfold Room at *;rw [zqc,List.length_append];omega
theorem Room.le {a:z02} {n m:Nat} (h:Room a n) (hm:m≤n):Room a m:=by unfold Room at *;omega
theorem z8h {a:z02} {l:List ByteArray} (h:Room a l.length):z0f a l=some (act a (wW l)):=by
 unfold z0f
 rw [z7v (by unfold Room at h;omega)]
 simp [act,wW]
theorem zbg (a:z02) (ok:Bool):z31 a ok=some (act a (wM ok)):=by
 unfold z31 act wM
 cases a with|mk o f d b p=>cases f <;> simp
theorem zdu {a:z02} {s:ByteArray} (h:Room a 1) (hs:s.size≤4194304):z1h a s=some (act a (wN s)):=by
 unfold z1h
 rw [z08v s hs]
 simp only [Option.bind_eq_bind,Option.bind_some,zbg]
 have hw:wM (zp7 s)++wW [s]=wN s:=by simp [wM,wW,wN,Wr.app_def]
 have hput:∀ x:Wr,x.ws=[]→z0f (act a x) [s]=some (act a (x++wW [s])):=fun x hx=>by
  rw [z8h (Room.act h (by rw [hx];simp)),z2k]
 rw [← hw,← hput _ rfl]
 unfold zp7
 generalize finT s.size (lexS s.data.toList 0)=v
 obtain ⟨l,p,e⟩:=v
 by_cases he:e=0
 ·subst he
  match l with
  | []=>simp [act]
  | [t] =>
   have:idx [t] 0=some t:=rfl
   by_cases hk:t.Kind=1
   ·simp [this,hk,act]
   ·have hk':(t.Kind==1)=false:=by simpa using hk
    simp [this,hk,hk',act]
  | t::t'::r =>
   have:¬ ((r.length:Int)+1+1=1):=by omega
   have h2:((r.length:Int)+1+1==1)=false:=by simpa using this
   simp [this,h2,act]
 ·have he':(e==0)=false:=by simpa using he
  simp [he',act]
theorem zld {a:z02} {n:Int} (h:Room a 1) (h0:-9223372036854775808≤n) (h1:n≤9223372036854775807):z4x a n=some (act a (wI n)):=by
 unfold z4x
 have hi:itoa n=some (zrs n):=by unfold itoa;rw [if_pos ⟨h0,h1⟩]
 have hw:wM (zom n)++wW [zrs n]=wI n:=by simp [wM,wW,wI,Wr.app_def]
 have hput:∀ x:Wr,x.ws=[]→z0f (act a x) [zrs n]=some (act a (x++wW [zrs n])):=fun x hx=>by
  rw [z8h (Room.act h (by rw [hx];simp)),z2k]
 rw [← hw,← hput _ rfl]
 simp only [Option.bind_eq_bind,Option.bind_some,zbg,hi]
 unfold zom
 by_cases hn:n≥0
 ·simp [hn,act]
 ·simp [hn,act]
mutual
def szE:z06→Nat
 | ⟨_,_,_,l⟩=>1+szEs l
def szEs:List z06→Nat
 | []=>0
 | e::r=>szE e+szEs r
end
def sumK (k:Int):Bool:=k==4 || k==5
def pairK (k:Int):Bool:=decide (k≥4)&&decide (k≤8)
theorem z0aa (k:Int):zhu k=some (sumK k):=by unfold zhu sumK;cases (k==4) <;> simp
theorem zs0 (k:Int):zgx k=some (pairK k):=by unfold zgx pairK;by_cases h:k≥4 <;> simp [h]
def signW (k:Int):ByteArray:=match k with
 | 4=>ByteArray.mk #[43]|5=>ByteArray.mk #[45]|6=>ByteArray.mk #[42]|7=>ByteArray.mk #[47]|_=>ByteArray.mk #[37]
theorem z02j {k:Int} (h:pairK k=true):idx [(ByteArray.mk #[43]),(ByteArray.mk #[45]),(ByteArray.mk #[42]),(ByteArray.mk #[47]),(ByteArray.mk #[37])] (IntKind.i64.wrap (k - 4))=some (signW k):=by
 unfold pairK at h
 simp only [Bool.and_eq_true,decide_eq_true_eq] at h
 have:k=4∨k=5∨k=6∨k=7∨k=8:=by omega
 rcases this with rfl|rfl|rfl|rfl|rfl <;> rfl
def wLeaf (e:z06):Wr:=wM ((e.Kids.length:Int)==0)++(if e.Kind==1 then wI e.Num else wM (e.Kind==2)++wN e.Name)
def inP (must:Bool) (f:Int→Wr) (p:Int):Wr:=if must then wW [(ByteArray.mk #[40])]++(wD (p+1)++(f (p+1)++wW [(ByteArray.mk #[41])])) else f p
def sE (e:z06) (p:Int):Wr :=
 match e with
 | ⟨k,n,s,[x]⟩=>if k==3 then wW [(ByteArray.mk #[45])]++(wD (p+1)++inP (pairK x.Kind) (sE x) (p+1)) else wLeaf ⟨k,n,s,[x]⟩
 | ⟨k,n,s,[l,r]⟩=>if pairK k then inP (!sumK k&&sumK l.Kind) (sE l) p++(wW [signW k]++inP (sumK r.Kind || (!sumK k&&pairK r.Kind)) (sE r) p) else wLeaf ⟨k,n,s,[l,r]⟩
 | ⟨k,n,s,l⟩=>wLeaf ⟨k,n,s,l⟩
theorem zqd (m:Bool) (f:Int→Wr) (p:Int) (c:Nat) (h:∀ q,(f q).ws.length≤c):(inP m f p).ws.length≤c+2:=by
 unfold inP
 split
 ·have:=h (p+1);simp [wW,wD];omega
 ·have:=h p;omega
theorem zle (e:z06):(wLeaf e).ws.length≤1:=by
 unfold wLeaf
 split <;> simp [wM,wI,wN]
theorem zid:∀ (e:z06) (p:Int),(sE e p).ws.length≤5*szE e
 | ⟨k,n,s,[]⟩,p=>by
  have:=zle ⟨k,n,s,[]⟩
  simp only [sE,szE,szEs];omega
 | ⟨k,n,s,[x]⟩,p=>by
  have:=zle ⟨k,n,s,[x]⟩
  simp only [sE,szE,szEs]
  split
  ·have:=zqd (pairK x.Kind) (sE x) (p+1) (5*szE x) (zid x)
   simp [wW,wD];omega
  ·omega
 | ⟨k,n,s,[l,r]⟩,p=>by
  have:=zle ⟨k,n,s,[l,r]⟩
  simp only [sE,szE,szEs]
  split
  ·have:=zqd (!sumK k&&sumK l.Kind) (sE l) p (5*szE l) (zid l)
   have:=zqd (sumK r.Kind || (!sumK k&&pairK r.Kind)) (sE r) p (5*szE r) (zid r)
   simp [wW];omega
  ·omega
 | ⟨k,n,s,a::b::c::l⟩,p=>by
  have:=zle ⟨k,n,s,a::b::c::l⟩
  simp only [sE,szE,szEs];omega
def in64 (n:Int):Prop:=-9223372036854775808≤n∧n≤9223372036854775807
mutual
def okE:z06→Prop
 | ⟨_,n,s,l⟩=>in64 n∧s.size≤4194304∧okEs l
def okEs:List z06→Prop
 | []=>True
 | e::r=>okE e∧okEs r
end
theorem w64p {p:Int} (h0:0≤p) (h1:p≤4611686018427387904):IntKind.i64.wrap (p+1)=p+1:=w64 (by omega) (by omega)
theorem w64m {p:Int} (h0:0≤p) (h1:p≤4611686018427387904):IntKind.i64.wrap (p+1 - 1)=p:=by rw [show p+1 - 1=p by omega];exact w64 (by omega) (by omega)
def Lo (a:z02) (n:Nat):Prop:=0≤a.f_parens∧a.f_parens+n≤4611686018427387904
theorem Lo.act {a:z02} {n m:Nat} {x:Wr} (h:Lo a n) (hm:m≤n):Lo (act a x) m:=⟨h.1,by have:=h.2;simp;omega⟩
theorem Lo.le {a:z02} {n m:Nat} (h:Lo a n) (hm:m≤n):Lo a m:=⟨h.1,by have:=h.2;omega⟩
def dn (a:z02):z02:=⟨a.f_out,a.f_form,a.f_deep || decide (a.f_parens+1 > 24),a.f_blocks,a.f_parens+1⟩
theorem z00a (a:z02) (x:Wr):z02.mk (act (dn a) x).f_out (act (dn a) x).f_form (act (dn a) x).f_deep (act (dn a) x).f_blocks a.f_parens=act a (wD (a.f_parens+1)++x):=by
 simp [act,dn,wD,Bool.or_assoc]
theorem z093 {a:z02} {n:Nat} (h:Lo a (n+1)):(if a.f_deep then (some true) else (some (decide ((IntKind.i64.wrap (a.f_parens+1)) > 24))):Option Bool)=some (a.f_deep || decide (a.f_parens+1 > 24))∧IntKind.i64.wrap (a.f_parens+1)=a.f_parens+1:=by
 have:=w64p h.1 (by have:=h.2;omega)
 rw [this]
 refine ⟨?_,rfl⟩
 cases a.f_deep <;> simp
def ExOk (e:z06):Prop:=∀ n a,Lo a (2*szE e)→Room a (5*szE e)→Sn n (8*szE e) (z2e n a e) (act a (sE e a.f_parens))
theorem z02k {e:z06} (h:ExOk e) (n:Nat) (a:z02) (m:Bool) (hl:Lo a (2*szE e+1)) (hr:Room a (5*szE e+2)):Sn n (8*szE e+4) (z2g n a e m) (act a (inP m (sE e) a.f_parens)):=by
 cases n with
 | zero=>exact .inr ⟨by simp [z2g],by omega⟩
 | succ n =>
  cases m with
  | false =>
   simp only [z2g,inP,Bool.not_false,if_true,Bool.false_eq_true,if_false]
   exact (((h n a (hl.le (by omega)) (hr.le (by omega))).bind (f:=fun v1=>some v1) (.inl rfl)).mono (by omega:8*szE e≤8*szE e+3)).up
  | true =>
   simp only [z2g,inP,Bool.not_true,Bool.false_eq_true,if_false,if_true]
   rw [z8h (hr.le (by simp))]
   simp only [Option.bind_eq_bind,Option.bind_some]
   have hl1:Lo (act a (wW [ByteArray.mk #[40]])) (2*szE e+1):=hl.act (Nat.le_refl _)
   obtain ⟨e1,e2⟩:=z093 hl1
   have key:Sn n (8*szE e+2) (z11 n (act a (wW [ByteArray.mk #[40]])) e) (act (act a (wW [ByteArray.mk #[40]])) (wD (a.f_parens+1)++sE e (a.f_parens+1))):=by
    cases n with
    | zero=>exact .inr ⟨by simp [z11],by omega⟩
    | succ n =>
     simp only [z11]
     rw [e1]
     simp only [Option.bind_eq_bind,Option.bind_some]
     rw [e2]
     have hd:Lo (dn (act a (wW [ByteArray.mk #[40]]))) (2*szE e):=⟨by have:=hl.1;simp [dn];omega,by have:=hl.2;simp [dn];omega⟩
     have hrm:Room (dn (act a (wW [ByteArray.mk #[40]]))) (5*szE e):=by unfold Room at *;simp [dn,zqc,wW];omega
     have k1:Sn n (8*szE e+1) (z3q n (dn (act a (wW [ByteArray.mk #[40]]))) e) (act (dn (act a (wW [ByteArray.mk #[40]]))) (sE e (a.f_parens+1))):=by
      cases n with
      | zero=>exact .inr ⟨by simp [z3q],by omega⟩
      | succ n =>
       simp only [z3q]
       exact ((h n _ hd hrm).bind (f:=fun v1=>some v1) (.inl rfl)).up
     refine (k1.bind (f:=fun v1=>some (z02.mk v1.f_out v1.f_form v1.f_deep v1.f_blocks (IntKind.i64.wrap (v1.f_parens - 1)))) (.inl ?_)).up
     refine congrArg some ?_
     have hb:=z00a (act a (wW [ByteArray.mk #[40]])) (sE e (a.f_parens+1))
     simp only [z65] at hb
     refine Eq.trans ?_ hb
     have:IntKind.i64.wrap ((act (dn (act a (wW [ByteArray.mk #[40]]))) (sE e (a.f_parens+1))).f_parens - 1)=a.f_parens:=by
      show IntKind.i64.wrap (a.f_parens+1 - 1)=a.f_parens
      exact w64m hl.1 (by have:=hl.2;omega)
     rw [this]
   refine ((key.bind (f:=fun v3=>z0f v3 [ByteArray.mk #[41]]>>=fun v4=>some v4) (.inl ?_)).mono (by omega:8*szE e+2≤8*szE e+3)).up
   have hlen:=zid e (a.f_parens+1)
   rw [z8h]
   ·simp only [Option.bind_eq_bind,Option.bind_some,z2k,Wr.assoc]
   ·unfold Room at *;simp [zqc,wW,wD];omega
theorem zvi {a:z02} {e:z06} (hn:in64 e.Num) (hs:e.Name.size≤4194304) (hr:Room a 1):zae a e=some (act a (wLeaf e)):=by
 unfold zae wLeaf
 have hr0:∀ b,Room (act a (wM b)) 1:=fun b=>hr.act (by simp [wM])
 have hr1:∀ b c,Room (act (act a (wM b)) (wM c)) 1:=fun b c=>(hr0 b).act (by simp [wM])
 simp only [zbg,Option.bind_eq_bind,Option.bind_some,zld (hr0 _) hn.1 hn.2,zdu (hr1 _ _) hs]
 cases (e.Kind==1) <;> simp [z2k,Wr.assoc]
theorem z066 {k m:Int} {s:ByteArray} {x:z06} (h:ExOk x) (n:Nat) (a:z02) (hl:Lo a (2*szE x+1)) (hr:Room a (5*szE x+2)) :
  Sn n (8*szE x+5) (z3f n a ⟨k,m,s,[x]⟩) (act a (inP (pairK x.Kind) (sE x) a.f_parens)):=by
 cases n with
 | zero=>exact .inr ⟨by simp [z3f],by omega⟩
 | succ n =>
  simp only [z3f]
  rw [show idx (z06.mk k m s [x]).Kids 0=some x from rfl]
  simp only [Option.bind_eq_bind,Option.bind_some,zs0]
  exact ((z02k h n a (pairK x.Kind) hl hr).bind (f:=fun v3=>some v3) (.inl rfl)).up
theorem z00b {k m:Int} {s:ByteArray} {x:z06} (h:ExOk x) (n:Nat) (a:z02) (hl:Lo a (2*szE x+2)) (hr:Room a (5*szE x+2)) :
  Sn n (8*szE x+6) (z10 n a ⟨k,m,s,[x]⟩) (act a (wD (a.f_parens+1)++inP (pairK x.Kind) (sE x) (a.f_parens+1))):=by
 cases n with
 | zero=>exact .inr ⟨by simp [z10],by omega⟩
 | succ n =>
  obtain ⟨e1,e2⟩:=z093 hl
  simp only [z10]
  rw [e1]
  simp only [Option.bind_eq_bind,Option.bind_some]
  rw [e2]
  have hd:Lo (dn a) (2*szE x+1):=⟨by have:=hl.1;simp [dn];omega,by have:=hl.2;simp [dn];omega⟩
  have hrm:Room (dn a) (5*szE x+2):=hr
  refine ((z066 (k:=k) (m:=m) (s:=s) h n (dn a) hd hrm).bind (f:=fun v1=>some (z02.mk v1.f_out v1.f_form v1.f_deep v1.f_blocks (IntKind.i64.wrap (v1.f_parens - 1)))) (.inl ?_)).up
  refine congrArg some ?_
  refine Eq.trans ?_ (z00a a _)
  have:IntKind.i64.wrap ((act (dn a) (inP (pairK x.Kind) (sE x) (a.f_parens+1))).f_parens - 1)=a.f_parens:=by
   show IntKind.i64.wrap (a.f_parens+1 - 1)=a.f_parens
   exact w64m hl.1 (by have:=hl.2;omega)
  show z02.mk _ _ _ _ (IntKind.i64.wrap ((act (dn a) (inP (pairK x.Kind) (sE x) (a.f_parens+1))).f_parens - 1))=_
  rw [this];rfl
theorem zqe:∀ e:z06,okE e→ExOk e
 | ⟨k,m,s,[]⟩,ho,n,a,hl,hr=>by
  simp only [okE] at ho
  cases n with
  | zero=>exact .inr ⟨by simp [z2e],by simp only [szE];omega⟩
  | succ n =>
   refine .inl ?_
   have hlf:=zvi (e:=⟨k,m,s,[]⟩) ho.1 ho.2.1 (hr.le (by simp only [szE];omega))
   simp only [z2e,sE,zs0,Option.bind_eq_bind,Option.bind_some,hlf]
   cases (k==3) <;> cases (pairK k) <;> simp
 | ⟨k,m,s,[x]⟩,ho,n,a,hl,hr=>by
  simp only [okE,okEs] at ho
  have hx:=zqe x ho.2.2.1
  simp only [szE,szEs] at hl hr
  cases n with
  | zero=>exact .inr ⟨by simp [z2e],by simp only [szE];omega⟩
  | succ n =>
   simp only [z2e,sE,zs0,Option.bind_eq_bind,Option.bind_some]
   by_cases hk:(k==3)=true
   ·have h1:((([x]:List z06).length:Int)==1)=true:=rfl
    simp only [hk,if_true,h1,Option.bind_some]
    rw [z8h (hr.le (by simp;omega))]
    simp only [Option.bind_some]
    have hr1:Room (act a (wW [ByteArray.mk #[45]])) (5*szE x+2):=hr.act (by simp [wW];omega)
    refine (((z00b (k:=k) (m:=m) (s:=s) hx n (act a (wW [ByteArray.mk #[45]])) (hl.act (by omega)) hr1).bind (f:=fun v2=>some v2) (.inl ?_)).mono (by simp only [szE,szEs];omega:8*szE x+6≤8*szE ⟨k,m,s,[x]⟩ - 1)).up.mono (by simp only [szE];omega)
    simp only [z2k,z65]
   ·have hk:(k==3)=false:=by simpa using hk
    refine .inl ?_
    have hlf:=zvi (e:=⟨k,m,s,[x]⟩) ho.1 ho.2.1 (hr.le (by omega))
    simp only [hk,hlf,Bool.false_eq_true,if_false,Option.bind_some]
    cases (pairK k) <;> simp
 | ⟨k,m,s,[l,r]⟩,ho,n,a,hl,hr=>by
  simp only [okE,okEs] at ho
  have hL:=zqe l ho.2.2.1
  have hR:=zqe r ho.2.2.2.1
  simp only [szE,szEs] at hl hr
  cases n with
  | zero=>exact .inr ⟨by simp [z2e],by simp only [szE];omega⟩
  | succ n =>
   have h3:((if (k==3)=true then some ((([l,r]:List z06).length:Int)==1) else some false):Option Bool)=some false:=by
    split <;> rfl
   simp only [z2e,sE,zs0,z0aa,Option.bind_eq_bind,Option.bind_some]
   rw [h3]
   simp only [Option.bind_some,Bool.false_eq_true,if_false]
   by_cases hk:pairK k=true
   ·have h2:((([l,r]:List z06).length:Int)==2)=true:=rfl
    rw [if_pos hk,if_pos hk,h2]
    rw [show idx [l,r] 0=some l from rfl,show idx [l,r] 1=some r from rfl,z02j hk]
    simp only [Option.bind_some,if_true]
    have b1:=zqd (!sumK k&&sumK l.Kind) (sE l) a.f_parens (5*szE l) (zid l)
    have k1:Sn n (8*szE l+4) ((if (!sumK k)=true then (z2g n a l (sumK l.Kind)).bind fun v8=>some (v8.f_form,v8.f_deep,v8.f_blocks,v8.f_parens,v8.f_out) else (z2g n a l false).bind fun v9=>some (v9.f_form,v9.f_deep,v9.f_blocks,v9.f_parens,v9.f_out)):Option (Bool × Bool × Int × Int × List ByteArray))
      (let v:=act a (inP (!sumK k&&sumK l.Kind) (sE l) a.f_parens);(v.f_form,v.f_deep,v.f_blocks,v.f_parens,v.f_out)):=by
     cases hs:sumK k
     ·simp only [Bool.not_false,if_true,Bool.true_and]
      exact (z02k hL n a _ (hl.le (by omega)) (hr.le (by omega))).bind (f:=fun v8=>some (v8.f_form,v8.f_deep,v8.f_blocks,v8.f_parens,v8.f_out)) (.inl rfl)
     ·simp only [Bool.not_true,Bool.false_eq_true,if_false,Bool.false_and]
      exact (z02k hL n a _ (hl.le (by omega)) (hr.le (by omega))).bind (f:=fun v8=>some (v8.f_form,v8.f_deep,v8.f_blocks,v8.f_parens,v8.f_out)) (.inl rfl)
    refine ((k1.mono (by simp only [szE,szEs];omega:8*szE l+4≤8*szE ⟨k,m,s,[l,r]⟩ - 1)).bind ?_).up.mono (by simp only [szE];omega)
    have hr2:Room (act a (inP (!sumK k&&sumK l.Kind) (sE l) a.f_parens)) (5*szE r+3):=hr.act (by omega)
    show Sn n _ ((z0f (act a (inP (!sumK k&&sumK l.Kind) (sE l) a.f_parens)) [signW k]).bind _) _
    rw [z8h (hr2.le (by simp))]
    simp only [Option.bind_some,z2k]
    have hr3:Room (act a (inP (!sumK k&&sumK l.Kind) (sE l) a.f_parens++wW [signW k])) (5*szE r+2):=by
     rw [← z2k];exact hr2.act (by simp [wW];omega)
    have k2:∀ mm,Sn n (8*szE ⟨k,m,s,[l,r]⟩ - 1) ((z2g n (act a (inP (!sumK k&&sumK l.Kind) (sE l) a.f_parens++wW [signW k])) r mm).bind fun v=>some v)
      (act a (inP (!sumK k&&sumK l.Kind) (sE l) a.f_parens++(wW [signW k]++inP mm (sE r) a.f_parens))):=fun mm=>by
     have:=z02k hR n (act a (inP (!sumK k&&sumK l.Kind) (sE l) a.f_parens++wW [signW k])) mm (hl.act (by omega)) hr3
     rw [z2k,z65,Wr.assoc] at this
     exact (this.bind (f:=fun v=>some v) (.inl rfl)).mono (by simp only [szE,szEs];omega)
    cases hsr:sumK r.Kind
    ·simp only [Bool.false_eq_true,if_false,Bool.false_or]
     cases hs:sumK k
     ·simp only [Bool.not_false,if_true,Bool.true_and]
      have:=k2 (pairK r.Kind)
      rw [hs] at this;exact this
     ·simp only [Bool.not_true,Bool.false_eq_true,if_false,Bool.false_and]
      have:=k2 false
      rw [hs] at this;exact this
    ·simp only [if_true,Bool.true_or]
     exact k2 true
   ·have hk:pairK k=false:=by simpa using hk
    refine .inl ?_
    have hlf:=zvi (e:=⟨k,m,s,[l,r]⟩) ho.1 ho.2.1 (hr.le (by omega))
    simp only [hk,hlf,Bool.false_eq_true,if_false,Option.bind_some]
 | ⟨k,m,s,x::y::z::t⟩,ho,n,a,hl,hr=>by
  simp only [okE] at ho
  cases n with
  | zero=>exact .inr ⟨by simp [z2e],by simp only [szE];omega⟩
  | succ n =>
   refine .inl ?_
   have hlf:=zvi (e:=⟨k,m,s,x::y::z::t⟩) ho.1 ho.2.1 (hr.le (by simp only [szE];omega))
   have h1:(((x::y::z::t).length:Int)==1)=false:=by simp only [List.length_cons];simp;omega
   have h2:(((x::y::z::t).length:Int)==2)=false:=by simp only [List.length_cons];simp;omega
   simp only [z2e,sE,zs0,Option.bind_eq_bind,Option.bind_some,hlf,h1,h2]
   cases (k==3) <;> cases (pairK k) <;> simp
theorem zj8 {a:z02} {e:z06} (ho:okE e) (hl:Lo a (2*szE e)) (hr:Room a (5*szE e)):z88 a e=some (act a (sE e a.f_parens)) :=
 Sn.unf fun n=>zqe e ho n a hl hr
def szC (c:z4j):Nat:=1+szE c.L+szE c.R
def okC (c:z4j):Prop:=okE c.L∧okE c.R
def opOk (k:Int):Bool:=decide (k≥1)&&decide (k≤6)
def opW (k:Int):ByteArray:=match k with
 | 1=>ByteArray.mk #[61,61]|2=>ByteArray.mk #[33,61]|3=>ByteArray.mk #[60]|4=>ByteArray.mk #[60,61]|5=>ByteArray.mk #[62]|_=>ByteArray.mk #[62,61]
theorem z094 {k:Int} (h:opOk k=true):idx [(ByteArray.mk #[61,61]),(ByteArray.mk #[33,61]),(ByteArray.mk #[60]),(ByteArray.mk #[60,61]),(ByteArray.mk #[62]),(ByteArray.mk #[62,61])] (IntKind.i64.wrap (k - 1))=some (opW k):=by
 unfold opOk at h
 simp only [Bool.and_eq_true,decide_eq_true_eq] at h
 have:k=1∨k=2∨k=3∨k=4∨k=5∨k=6:=by omega
 rcases this with rfl|rfl|rfl|rfl|rfl|rfl <;> rfl
def sC (c:z4j) (p:Int):Wr:=wW [(ByteArray.mk #[40])]++(sE c.L p++((if opOk c.Op then wW [opW c.Op] else wM false)++(sE c.R p++wW [(ByteArray.mk #[41])])))
theorem z03m (c:z4j) (p:Int):(sC c p).ws.length≤5*szC c:=by
 have h1:=zid c.L p
 have h2:=zid c.R p
 unfold sC szC
 split <;> simp [wW,wM] <;> omega
theorem zo2 {a:z02} {c:z4j} (ho:okC c) (hl:Lo a (2*szC c)) (hr:Room a (5*szC c)):z89 a c=some (act a (sC c a.f_parens)):=by
 unfold z89 sC
 unfold szC at hl hr
 have h1:=zid c.L a.f_parens
 have h2:=zid c.R a.f_parens
 have r1:Room (act a (wW [ByteArray.mk #[40]])) (5*szE c.L+5*szE c.R+3):=hr.act (by simp [wW];omega)
 rw [z8h (hr.le (by simp;omega))]
 simp only [Option.bind_eq_bind,Option.bind_some]
 rw [zj8 ho.1 (hl.act (by omega)) (r1.le (by omega))]
 have r2:Room (act (act a (wW [ByteArray.mk #[40]])) (sE c.L a.f_parens)) (5*szE c.R+3):=r1.act (by omega)
 have hj:((if decide (c.Op<1)=true then some true else some (decide (c.Op > 6))):Option Bool)=some (!opOk c.Op):=by
  unfold opOk
  by_cases h:c.Op<1
  ·have:¬ (c.Op≥1):=by omega
   simp [h,this]
  ·have:c.Op≥1:=by omega
   simp only [h,this,decide_false,decide_true,Bool.false_eq_true,if_false,Bool.true_and]
   by_cases h6:c.Op > 6
   ·have:¬ c.Op≤6:=by omega
    simp [h6,this]
   ·have:c.Op≤6:=by omega
    simp [h6,this]
 simp only [Option.bind_some,z65,hj,zbg]
 cases hok:opOk c.Op
 ·simp only [Bool.not_false,if_true,Bool.false_eq_true,if_false]
  have r3:Room (act (act (act a (wW [ByteArray.mk #[40]])) (sE c.L a.f_parens)) (wM false)) (5*szE c.R+3):=r2.act (by simp [wM])
  rw [zj8 ho.2 (((hl.act (Nat.le_refl _)).act (Nat.le_refl _)).act (by omega)) (r3.le (by omega))]
  simp only [Option.bind_some,z65]
  rw [z8h (r3.act (m:=1) (by omega))]
  simp only [Option.bind_some,z2k,Wr.assoc]
 ·simp only [Bool.not_true,if_true,Bool.false_eq_true,if_false,z094 hok,Option.bind_some]
  rw [z8h (r2.le (by simp))]
  simp only [Option.bind_some]
  have r3:Room (act (act (act a (wW [ByteArray.mk #[40]])) (sE c.L a.f_parens)) (wW [opW c.Op])) (5*szE c.R+2):=r2.act (by simp [wW];omega)
  rw [zj8 ho.2 (((hl.act (Nat.le_refl _)).act (Nat.le_refl _)).act (by omega)) (r3.le (by omega))]
  simp only [Option.bind_some,z65]
  rw [z8h (r3.act (m:=1) (by omega))]
  simp only [Option.bind_some,z2k,Wr.assoc]
mutual
def szS:z05→Nat
 | .mk _ _ _ e c b l a=>4+szE e+szC c+szL b+szL l+szA a
def szL:List z05→Nat
 | []=>1
 | s::r=>szS s+szL r
def szA:List z1r→Nat
 | []=>1
 | .mk _ _ b::r=>2+szL b+szA r
end
mutual
def okS:z05→Prop
 | .mk _ n t e c b l a=>n.size≤4194304∧t.size≤4194304∧okE e∧okC c∧okL b∧okL l∧okA a
def okL:List z05→Prop
 | []=>True
 | s::r=>okS s∧okL r
def okA:List z1r→Prop
 | []=>True
 | .mk t v b::r=>t.size≤4194304∧v.size≤4194304∧okL b∧okA r
end
def inB (f:Int→Wr) (b:Int):Wr:=wW [(ByteArray.mk #[123])]++(wD (b+1)++(f (b+1)++wW [(ByteArray.mk #[125])]))
mutual
def sS:z05→Int→Int→Wr
 | .mk k n t e c bo el ar,b,p =>
  if k==1 then wN n++(wW [(ByteArray.mk #[61])]++(sE e p++wW [(ByteArray.mk #[59])]))
  else if k==2 then wW [(ByteArray.mk #[105,102])]++(sC c p++(inB (fun q=>sL bo q p) b++(if el.isEmpty then Wr.nil else wW [(ByteArray.mk #[101,108,115,101])]++inB (fun q=>sL el q p) b)))
  else if k==3 then wW [(ByteArray.mk #[119,104,105,108,101])]++(sC c p++inB (fun q=>sL bo q p) b)
  else if k==4 then wW [(ByteArray.mk #[115,101,110,100])]++(wN n++(wW [(ByteArray.mk #[46])]++(wN t++(wW [(ByteArray.mk #[40])]++(sE e p++wW [(ByteArray.mk #[41]),(ByteArray.mk #[59])])))))
  else if k==5 then wW [(ByteArray.mk #[114,101,99,118])]++(wN n++(wM (!ar.isEmpty)++(wW [(ByteArray.mk #[123])]++(sA ar b p++wW [(ByteArray.mk #[125])]))))
  else if k==6 then wW [(ByteArray.mk #[97,115,115,101,114,116])]++(sC c p++wW [(ByteArray.mk #[59])])
  else if k==7 then wW [(ByteArray.mk #[105,110,112,117,116])]++(wN n++wW [(ByteArray.mk #[59])])
  else wM false
def sL:List z05→Int→Int→Wr
 | [],_,_=>Wr.nil
 | s::r,b,p=>sS s b p++sL r b p
def sA:List z1r→Int→Int→Wr
 | [],_,_=>Wr.nil
 | .mk t v bo::r,b,p=>wN t++(wW [(ByteArray.mk #[40])]++(wN v++(wW [(ByteArray.mk #[41])]++(inB (fun q=>sL bo q p) b++sA r b p))))
end
theorem zmg (f:Int→Wr) (b:Int) (c:Nat) (h:∀ q,(f q).ws.length≤c):(inB f b).ws.length≤c+2:=by
 have:=h (b+1)
 unfold inB;simp [wW,wD];omega
mutual
theorem z03n:∀ (s:z05) (b p:Int),(sS s b p).ws.length≤5*szS s
 | .mk k n t e c bo el ar,b,p=>by
  have h1:=zid e p
  have h2:=z03m c p
  have h3:=zmg (fun q=>sL bo q p) b _ fun q=>zja bo q p
  have h4:=zmg (fun q=>sL el q p) b _ fun q=>zja el q p
  have h5:=zvj ar b p
  have h6:=z95 bo
  have h7:=z95 el
  have h8:=zo7 ar
  simp only [sS,szS]
  split
  ·simp [wN,wW];omega
  ·split
   ·split <;> simp [wN,wW,Wr.nil] <;> omega
   ·split
    ·simp [wN,wW];omega
    ·split
     ·simp [wN,wW];omega
     ·split
      ·simp [wN,wW,wM];omega
      ·split
       ·simp [wW];omega
       ·split
        ·simp [wN,wW];omega
        ·simp [wM]
theorem zja:∀ (l:List z05) (b p:Int),(sL l b p).ws.length≤5*szL l
 | [],b,p=>by simp [sL,Wr.nil]
 | s::r,b,p=>by
  have:=z03n s b p
  have:=zja r b p
  simp only [sL,szL,Wr.ws_app,List.length_append];omega
theorem zvj:∀ (l:List z1r) (b p:Int),(sA l b p).ws.length≤5*szA l
 | [],b,p=>by simp [sA,Wr.nil]
 | .mk t v bo::r,b,p=>by
  have:=zmg (fun q=>sL bo q p) b _ fun q=>zja bo q p
  have:=zvj r b p
  simp only [sA,szA];simp [wN,wW];omega
theorem z95:∀ l:List z05,1≤szL l
 | []=>by simp [szL]
 | s::r=>by have:=z95 r;simp only [szL];omega
theorem zo7:∀ l:List z1r,1≤szA l
 | []=>by simp [szA]
 | .mk t v bo::r=>by simp only [szA];omega
end
def Lq (a:z02) (n:Nat):Prop:=Lo a n∧0≤a.f_blocks∧a.f_blocks+n≤4611686018427387904
theorem Lq.act {a:z02} {n m:Nat} {x:Wr} (h:Lq a n) (hm:m≤n):Lq (act a x) m:=⟨h.1.act hm,h.2.1,by have:=h.2.2;simp;omega⟩
theorem Lq.le {a:z02} {n m:Nat} (h:Lq a n) (hm:m≤n):Lq a m:=⟨h.1.le hm,h.2.1,by have:=h.2.2;omega⟩
def tp (a:z02):Bool × Bool × Int × Int × List ByteArray:=(a.f_form,a.f_deep,a.f_blocks,a.f_parens,a.f_out)
def StOk (s:z05):Prop:=∀ n a,Lq a (2*szS s)→Room a (5*szS s)→Sn n (8*szS s) (z2n n a s) (act a (sS s a.f_blocks a.f_parens))
def LsOk (l:List z05):Prop:=∀ n a,Lq a (2*szL l)→Room a (5*szL l)→Sn n (8*szL l) (z2f n a l) (act a (sL l a.f_blocks a.f_parens))
theorem zty:∀ l:List z05,l.length≤szL l
 | []=>by simp
 | s::r=>by
  have:=zty r
  have:4≤szS s:=by cases s;simp only [szS];omega
  simp only [szL,List.length_cons];omega
theorem ztz:∀ l:List z1r,l.length≤szA l
 | []=>by simp
 | .mk t v b::r=>by
  have:=ztz r
  simp only [szA,List.length_cons];omega
theorem zxa {F1:z02→List z05→Option z02} {F3:z02→List z05→Option z02} {F4:z02→List z1r→Option z02} (n:Nat) (a1:List z05) (hlen:a1.length≤4611686018427387904) :
  ∀ (l:List z05) (i:Nat) (a:z02),a1.drop i=l→i≤a1.length→(∀ s∈l,StOk s)→Lq a (2*szL l)→Room a (5*szL l) →
   Sn n (8*szL l - 8) (iter (z68 F1 (z2n n) F3 F4 a1) ((i:Int),tp a)) (.inr (tp (act a (sL l a.f_blocks a.f_parens)))):=by
 intro l
 induction l with
 | nil =>
  intro i a hd hi hs hq hr
  have:i=a1.length:=by have:=List.drop_eq_nil_iff.1 hd;omega
  refine .inl (z4l ?_)
  unfold z68
  rw [if_neg (by simp;omega)]
  simp [sL,Wr.nil,act,tp]
 | cons s r ih =>
  intro i a hd hi hs hq hr
  have hlt:i<a1.length:=by
   refine Nat.lt_of_not_le fun h=>?_
   rw [List.drop_of_length_le h] at hd;cases hd
  rw [List.drop_eq_getElem_cons hlt] at hd
  injection hd with h1 h2
  have hi2:idx a1 (i:Int)=some s:=by rw [zb4 hlt,h1]
  have hw:IntKind.i64.wrap ((i:Int)+1)=((i+1:Nat):Int):=by rw [w64 (by omega) (by omega)];omega
  have hb:z68 F1 (z2n n) F3 F4 a1 ((i:Int),tp a)=(z2n n a s).bind fun v2=>some (.inl (((i+1:Nat):Int),tp v2)):=by
   unfold z68
   rw [if_pos (by simp;omega)]
   simp only [hi2,Option.bind_eq_bind,Option.bind_some,hw]
   rfl
  simp only [szL] at hq hr ⊢
  have hp:=z95 r
  rw [zce,hb,Option.bind_eq_bind,Option.bind_assoc]
  refine Sn.bind (x:=z2n n a s) (((hs s List.mem_cons_self) n a (hq.le (by omega)) (hr.le (by omega))).mono (by omega)) ?_
  have hl:=z03n s a.f_blocks a.f_parens
  have:=ih (i+1) (act a (sS s a.f_blocks a.f_parens)) h2 hlt (fun s hs'=>hs s (List.mem_cons_of_mem _ hs')) (hq.act (by omega)) (hr.act (by omega))
  simp only [zda,z65,z2k] at this
  simp only [sL]
  exact this.mono (by omega)
theorem zn4 {l:List z05} (hs:∀ s∈l,StOk s):LsOk l:=by
 intro n a hq hr
 have hp:=z95 l
 cases n with
 | zero=>exact .inr ⟨by simp [z2f],by omega⟩
 | succ n =>
  simp only [z2f]
  have hl:=zty l
  have hb:=hq.2
  have:=zxa (F1:=z2f n) (F3:=z24 n) (F4:=z30 n) n l (by omega) l 0 a rfl (by omega) hs hq hr
  have hput:Sum.elim (fun _=>(none:Option z02)) (fun j1=>some (z02.mk j1.2.2.2.2 j1.1 j1.2.1 j1.2.2.1 j1.2.2.2.1)) (Sum.inr (tp (act a (sL l a.f_blocks a.f_parens))):Sum z02 (Bool × Bool × Int × Int × List ByteArray))=some (act a (sL l a.f_blocks a.f_parens)):=rfl
  have t2:=(Sn.bind this (.inl hput)).up
  exact t2.mono (by omega)
theorem z0ab {p:Int} (h0:0≤p) (h1:p+1≤4611686018427387904):IntKind.i64.wrap (p+1)=p+1:=w64 (by omega) (by omega)
theorem zn5 {l:List z05} (h:LsOk l) (n:Nat) (a:z02) (hq:Lq a (2*szL l+1)) (hr:Room a (5*szL l+2)) :
  Sn n (8*szL l+1) (z24 n a l) (act a (inB (fun q=>sL l q a.f_parens) a.f_blocks)):=by
 cases n with
 | zero=>exact .inr ⟨by simp [z24],by omega⟩
 | succ n =>
  simp only [z24]
  rw [z8h (hr.le (by simp))]
  simp only [Option.bind_eq_bind,Option.bind_some]
  have hw:IntKind.i64.wrap ((act a (wW [ByteArray.mk #[123]])).f_blocks+1)=a.f_blocks+1:=z0ab (p:=a.f_blocks) hq.2.1 (by have:=hq.2.2;omega)
  have hj:((if (act a (wW [ByteArray.mk #[123]])).f_deep=true then some true else some (decide (IntKind.i64.wrap ((act a (wW [ByteArray.mk #[123]])).f_blocks+1) > 24))):Option Bool)=some (a.f_deep || decide (a.f_blocks+1 > 24)):=by
   rw [hw]
   simp only [act,wW,Bool.or_false];cases a.f_deep <;> simp
  rw [hj]
  simp only [Option.bind_some]
  rw [hw]
  generalize hb':(z02.mk (act a (wW [ByteArray.mk #[123]])).f_out (act a (wW [ByteArray.mk #[123]])).f_form (a.f_deep || decide (a.f_blocks+1 > 24)) (a.f_blocks+1) (act a (wW [ByteArray.mk #[123]])).f_parens)=b
  have e1:b.f_blocks=a.f_blocks+1:=by rw [← hb']
  have e2:b.f_parens=a.f_parens:=by rw [← hb'];rfl
  have e3:b.f_out=a.f_out++[ByteArray.mk #[123]]:=by rw [← hb'];rfl
  have hqb:Lq b (2*szL l):=⟨⟨by rw [e2];exact hq.1.1,by rw [e2];have:=hq.1.2;omega⟩,by rw [e1];have:=hq.2.1;omega,by rw [e1];have:=hq.2.2;omega⟩
  have hrb:Room b (5*szL l+1):=by unfold Room at *;rw [e3];simp;omega
  have hl:=zja l b.f_blocks b.f_parens
  have hw2:IntKind.i64.wrap ((act b (sL l b.f_blocks b.f_parens)).f_blocks - 1)=a.f_blocks:=by
   show IntKind.i64.wrap (b.f_blocks - 1)=_
   rw [e1,show a.f_blocks+1 - 1=a.f_blocks by omega]
   exact w64 (by have:=hq.2.1;omega) (by have:=hq.2.2;omega)
  have he:z02.mk (act b (sL l b.f_blocks b.f_parens)).f_out (act b (sL l b.f_blocks b.f_parens)).f_form (act b (sL l b.f_blocks b.f_parens)).f_deep a.f_blocks (act b (sL l b.f_blocks b.f_parens)).f_parens
    = act a (wW [ByteArray.mk #[123]]++(wD (a.f_blocks+1)++sL l (a.f_blocks+1) a.f_parens)):=by
   rw [e1,e2,← hb']
   simp [act,wW,wD,Bool.or_assoc]
  have hput:(fun v2=>(z0f (z02.mk v2.f_out v2.f_form v2.f_deep (IntKind.i64.wrap (v2.f_blocks - 1)) v2.f_parens) [ByteArray.mk #[125]]).bind fun v3=>some v3) (act b (sL l b.f_blocks b.f_parens))=some (act a (inB (fun q=>sL l q a.f_parens) a.f_blocks)):=by
   show (z0f (z02.mk _ _ _ (IntKind.i64.wrap ((act b (sL l b.f_blocks b.f_parens)).f_blocks - 1)) _) _).bind _=_
   rw [hw2,he,z8h]
   ·simp only [Option.bind_some,z2k,Wr.assoc];rfl
   ·rw [e1,e2] at hl
    unfold Room at *;simp [zqc,wW,wD];omega
  have key:∀ f:z02→Option z02,f (act b (sL l b.f_blocks b.f_parens))=some (act a (inB (fun q=>sL l q a.f_parens) a.f_blocks))→Sn (n+1) (8*szL l+1) ((z2f n b l).bind f) (act a (inB (fun q=>sL l q a.f_parens) a.f_blocks)) :=
   fun f hf=>(Sn.bind (f:=f) (h n b hqb (hrb.le (by omega))) (.inl hf)).up
  refine key _ ?_
  exact hput
theorem z00c {F1:z02→List z05→Option z02} {F2:z02→z05→Option z02} {F4:z02→List z1r→Option z02} (n:Nat) (a1:List z1r) (hlen:a1.length≤4611686018427387904) :
  ∀ (l:List z1r) (i:Nat) (a:z02),a1.drop i=l→i≤a1.length→(∀ x∈l,LsOk x.Body)→okA l→Lq a (2*szA l)→Room a (5*szA l) →
   Sn n (8*szA l - 8) (iter (z6l F1 F2 (z24 n) F4 a1) ((i:Int),tp a)) (.inr (tp (act a (sA l a.f_blocks a.f_parens)))):=by
 intro l
 induction l with
 | nil =>
  intro i a hd hi hs ho hq hr
  have:i=a1.length:=by have:=List.drop_eq_nil_iff.1 hd;omega
  refine .inl (z4l ?_)
  unfold z6l
  rw [if_neg (by simp;omega)]
  simp [sA,Wr.nil,act,tp]
 | cons s r ih =>
  intro i a hd hi hs ho hq hr
  obtain ⟨t,v,bo⟩:=s
  have hlt:i<a1.length:=by
   refine Nat.lt_of_not_le fun h=>?_
   rw [List.drop_of_length_le h] at hd;cases hd
  rw [List.drop_eq_getElem_cons hlt] at hd
  injection hd with h1 h2
  have hi2:idx a1 (i:Int)=some (.mk t v bo):=by rw [zb4 hlt,h1]
  have hw:IntKind.i64.wrap ((i:Int)+1)=((i+1:Nat):Int):=by rw [w64 (by omega) (by omega)];omega
  simp only [okA] at ho
  simp only [szA] at hq hr ⊢
  have hp:=zo7 r
  have hpl:=z95 bo
  have r1:Room (act a (wN t)) (5*szL bo+5*szA r+9):=hr.act (by simp [wN];omega)
  have r2:Room (act a (wN t++wW [ByteArray.mk #[40]])) (5*szL bo+5*szA r+8):=hr.act (by simp [wN,wW];omega)
  have r3:Room (act a (wN t++(wW [ByteArray.mk #[40]]++wN v))) (5*szL bo+5*szA r+7):=hr.act (by simp [wN,wW];omega)
  have r4:Room (act a (wN t++(wW [ByteArray.mk #[40]]++(wN v++wW [ByteArray.mk #[41]])))) (5*szL bo+5*szA r+6):=hr.act (by simp [wN,wW];omega)
  have hb:z6l F1 F2 (z24 n) F4 a1 ((i:Int),tp a)=(z24 n (act a (wN t++(wW [ByteArray.mk #[40]]++(wN v++wW [ByteArray.mk #[41]])))) bo).bind fun v2=>some (.inl (((i+1:Nat):Int),tp v2)):=by
   unfold z6l
   rw [if_pos (by simp;omega)]
   simp only [hi2,Option.bind_eq_bind,Option.bind_some,hw]
   show (z1h a t).bind _=_
   rw [zdu (hr.le (by omega)) ho.1]
   simp only [Option.bind_some]
   rw [z8h (r1.le (by simp))]
   simp only [Option.bind_some,z2k]
   show (z1h _ v).bind _=_
   rw [zdu (r2.le (by omega)) ho.2.1]
   simp only [Option.bind_some,z2k,Wr.assoc]
   rw [z8h (r3.le (by simp))]
   simp only [Option.bind_some,z2k,Wr.assoc]
   rfl
  rw [zce,hb,Option.bind_eq_bind,Option.bind_assoc]
  have hbk:=zn5 (hs _ List.mem_cons_self) n (act a (wN t++(wW [ByteArray.mk #[40]]++(wN v++wW [ByteArray.mk #[41]])))) (hq.act (by show 2*szL bo+1≤_;omega)) (r4.le (by show 5*szL bo+2≤_;omega))
  refine Sn.bind (hbk.mono (by show 8*szL bo+1≤_;omega)) ?_
  have hl:=zmg (fun q=>sL bo q a.f_parens) a.f_blocks _ fun q=>zja bo q a.f_parens
  have:=ih (i+1) (act a (wN t++(wW [ByteArray.mk #[40]]++(wN v++(wW [ByteArray.mk #[41]]++inB (fun q=>sL bo q a.f_parens) a.f_blocks))))) h2 hlt (fun s hs'=>hs s (List.mem_cons_of_mem _ hs')) ho.2.2.2 (hq.act (by omega)) (hr.act (by simp [wN,wW];omega))
  simp only [zda,z65,z2k,Wr.assoc] at this ⊢
  simp only [sA]
  exact this.mono (by omega)
theorem z067 {l:List z1r} (hs:∀ x∈l,LsOk x.Body) (ho:okA l) (n:Nat) (a:z02) (hq:Lq a (2*szA l)) (hr:Room a (5*szA l+2)) :
  Sn n (8*szA l) (z30 n a l) (act a (wM (!l.isEmpty)++(wW [ByteArray.mk #[123]]++(sA l a.f_blocks a.f_parens++wW [ByteArray.mk #[125]])))):=by
 have hp:=zo7 l
 cases n with
 | zero=>exact .inr ⟨by simp [z30],by omega⟩
 | succ n =>
  simp only [z30]
  have he:(decide ((l.length:Int) > 0))=!l.isEmpty:=by cases l <;> simp
  rw [he,zbg]
  have r1:Room (act a (wM (!l.isEmpty))) (5*szA l+2):=hr.act (by simp [wM])
  simp only [Option.bind_eq_bind,Option.bind_some]
  rw [z8h (r1.le (by simp))]
  simp only [Option.bind_some,z2k]
  have hl:=ztz l
  have hb:=hq.2
  have r2:Room (act a (wM (!l.isEmpty)++wW [ByteArray.mk #[123]])) (5*szA l+1):=hr.act (by simp [wM,wW];omega)
  have:=z00c (F1:=z2f n) (F2:=z2n n) (F4:=z30 n) n l (by omega) l 0 (act a (wM (!l.isEmpty)++wW [ByteArray.mk #[123]])) rfl (by omega) hs ho (hq.act (Nat.le_refl _)) (r2.le (by omega))
  have hA:=zvj l a.f_blocks a.f_parens
  have hput:Sum.elim (fun _=>(none:Option z02)) (fun j1=>(z0f (z02.mk j1.2.2.2.2 j1.1 j1.2.1 j1.2.2.1 j1.2.2.2.1) [ByteArray.mk #[125]]).bind fun v9=>some v9) (Sum.inr (tp (act (act a (wM (!l.isEmpty)++wW [ByteArray.mk #[123]])) (sA l a.f_blocks a.f_parens))):Sum z02 (Bool × Bool × Int × Int × List ByteArray))=some (act a (wM (!l.isEmpty)++(wW [ByteArray.mk #[123]]++(sA l a.f_blocks a.f_parens++wW [ByteArray.mk #[125]])))):=by
   show (z0f (act (act a (wM (!l.isEmpty)++wW [ByteArray.mk #[123]])) (sA l a.f_blocks a.f_parens)) [ByteArray.mk #[125]]).bind _=_
   rw [z8h (r2.act (by simp;omega))]
   simp only [Option.bind_some,z2k,Wr.assoc]
  have t2:=(Sn.bind this (.inl hput)).up
  exact t2.mono (by omega)
theorem zie:∀ {l:List z05},okL l→∀ s∈l,okS s∧szS s+1≤szL l
 | [],_,s,hs=>by cases hs
 | x::r,ho,s,hs=>by
  simp only [okL] at ho
  have:=z95 r
  rcases List.mem_cons.1 hs with rfl|hs
  ·exact ⟨ho.1,by simp only [szL];omega⟩
  ·have:=zie ho.2 s hs
   exact ⟨this.1,by simp only [szL];omega⟩
theorem zqf:∀ {l:List z1r},okA l→∀ x∈l,okL x.Body∧szL x.Body≤szA l
 | [],_,s,hs=>by cases hs
 | .mk t v b::r,ho,s,hs=>by
  simp only [okA] at ho
  rcases List.mem_cons.1 hs with rfl|hs
  ·exact ⟨ho.2.2.1,by simp only [szA];show szL b≤_;omega⟩
  ·have:=zqf ho.2.2.2 s hs
   exact ⟨this.1,by simp only [szA];omega⟩
theorem zu0 {n h:Nat} {x:Option z02} {r:z02} (k:Sn n h x r):Sn n h (x.bind fun v=>some v) r:=Sn.bind (f:=fun v=>some v) k (.inl rfl)
theorem z068 {n h:Nat} {x:Option z02} {f:z02→Option z02} {r t:z02} (s:Sn n h x r) (k:Sn n h (f r) t):Sn n h (x.bind f) t:=Sn.bind (f:=f) s k
theorem z069:∀ (N:Nat) (s:z05),szS s≤N→okS s→StOk s:=by
 intro N
 induction N with
 | zero=>intro s hs;cases s;simp only [szS] at hs;omega
 | succ N ih =>
  intro s hs ho n a hq hr
  obtain ⟨k,nm,tg,e,c,bo,el,ar⟩:=s
  simp only [szS] at hs
  simp only [okS] at ho
  obtain ⟨on,ot,oe,oc,ob,oel,oar⟩:=ho
  have hbo:LsOk bo:=zn4 fun s h=>ih s (by have:=(zie ob s h).2;omega) (zie ob s h).1
  have hel:LsOk el:=zn4 fun s h=>ih s (by have:=(zie oel s h).2;omega) (zie oel s h).1
  have har:∀ x∈ar,LsOk x.Body:=fun x hx=>zn4 fun s h=>ih s (by have:=(zie (zqf oar x hx).1 s h).2;have:=(zqf oar x hx).2;omega) (zie (zqf oar x hx).1 s h).1
  have hz:szS (.mk k nm tg e c bo el ar)=4+szE e+szC c+szL bo+szL el+szA ar:=by simp only [szS]
  rw [hz] at hq hr ⊢
  have p1:=z95 bo
  have p2:=z95 el
  have p3:=zo7 ar
  have lE:=zid e a.f_parens
  have lC:=z03m c a.f_parens
  have lB:=zmg (fun q=>sL bo q a.f_parens) a.f_blocks _ fun q=>zja bo q a.f_parens
  have lL:=zmg (fun q=>sL el q a.f_parens) a.f_blocks _ fun q=>zja el q a.f_parens
  have lA:=zvj ar a.f_blocks a.f_parens
  cases n with
  | zero=>exact .inr ⟨by simp [z2n],by omega⟩
  | succ n =>
   have helt:(decide (((z05.mk k nm tg e c bo el ar).Else.length:Int) > 0))=!el.isEmpty:=by show decide ((el.length:Int) > 0)=_;cases el <;> simp
   simp only [z2n,sS,helt,Option.bind_eq_bind]
   dsimp only [z05.Kind,z05.Name,z05.Tag,z05.E,z05.C,z05.Body,z05.Else,z05.Arms]
   by_cases h1:(k==1)=true
   case pos =>
    refine .inl ?_
    simp only [h1,if_true]
    rw [zdu (hr.le (by omega)) on]
    simp only [Option.bind_some]
    rw [z8h (hr.act (by simp [wN];omega))]
    simp only [Option.bind_some,z2k]
    rw [zj8 oe (hq.1.act (by omega)) (hr.act (by simp [wN,wW];omega))]
    simp only [Option.bind_some,z2k,z65]
    rw [z8h (hr.act (by simp [wN,wW];omega))]
    simp only [Option.bind_some,z2k,Wr.assoc]
   case neg =>
   have h1:=Bool.eq_false_iff.2 h1
   simp only [h1,Bool.false_eq_true,if_false]
   by_cases h2:(k==2)=true
   case pos =>
    simp only [h2,if_true]
    rw [z8h (hr.le (by simp;omega))]
    simp only [Option.bind_some]
    rw [zo2 oc (hq.1.act (by omega)) (hr.act (by simp [wW];omega))]
    simp only [Option.bind_some,z2k,z65]
    have kb:=zn5 hbo n (act a (wW [ByteArray.mk #[105,102]]++sC c a.f_parens)) (hq.act (by omega)) (hr.act (by simp [wW];omega))
    simp only [z2k,zda,z65,Wr.assoc] at kb
    refine Sn.mono (Sn.up (z068 (kb.mono (by omega:_≤8*(4+szE e+szC c+szL bo+szL el+szA ar) - 1)) ?_)) (by omega)
    cases he:el.isEmpty with
    | true =>
     refine .inl ?_
     simp [Wr.app_nil]
    | false =>
     simp only [Bool.not_false,if_true]
     rw [z8h (hr.act (by simp [wW];omega))]
     simp only [Option.bind_some,z2k,Bool.false_eq_true,if_false]
     have ke:=zn5 hel n (act a (wW [ByteArray.mk #[105,102]]++(sC c a.f_parens++(inB (fun q=>sL bo q a.f_parens) a.f_blocks))++wW [ByteArray.mk #[101,108,115,101]])) (hq.act (by omega)) (hr.act (by simp [wW];omega))
     simp only [z2k,zda,z65,Wr.assoc] at ke ⊢
     exact zu0 (ke.mono (by omega))
   case neg =>
   have h2:=Bool.eq_false_iff.2 h2
   simp only [h2,Bool.false_eq_true,if_false]
   by_cases h3:(k==3)=true
   case pos =>
    simp only [h3,if_true]
    rw [z8h (hr.le (by simp;omega))]
    simp only [Option.bind_some]
    rw [zo2 oc (hq.1.act (by omega)) (hr.act (by simp [wW];omega))]
    simp only [Option.bind_some,z2k,z65]
    have kb:=zn5 hbo n (act a (wW [ByteArray.mk #[119,104,105,108,101]]++sC c a.f_parens)) (hq.act (by omega)) (hr.act (by simp [wW];omega))
    simp only [z2k,zda,z65,Wr.assoc] at kb
    exact Sn.mono (Sn.up (zu0 (kb.mono (by omega:_≤8*(4+szE e+szC c+szL bo+szL el+szA ar) - 1)))) (by omega)
   case neg =>
   have h3:=Bool.eq_false_iff.2 h3
   simp only [h3,Bool.false_eq_true,if_false]
   by_cases h4:(k==4)=true
   case pos =>
    refine .inl ?_
    simp only [h4,if_true]
    rw [z8h (hr.le (by simp;omega))]
    simp only [Option.bind_some]
    rw [zdu (hr.act (by simp [wW];omega)) on]
    simp only [Option.bind_some,z2k]
    rw [z8h (hr.act (by simp [wN,wW];omega))]
    simp only [Option.bind_some,z2k]
    rw [zdu (hr.act (by simp [wN,wW];omega)) ot]
    simp only [Option.bind_some,z2k]
    rw [z8h (hr.act (by simp [wN,wW];omega))]
    simp only [Option.bind_some,z2k]
    rw [zj8 oe (hq.1.act (by omega)) (hr.act (by simp [wN,wW];omega))]
    simp only [Option.bind_some,z2k,z65]
    rw [z8h (hr.act (by simp [wN,wW];omega))]
    simp only [Option.bind_some,z2k,Wr.assoc]
   case neg =>
   have h4:=Bool.eq_false_iff.2 h4
   simp only [h4,Bool.false_eq_true,if_false]
   by_cases h5:(k==5)=true
   case pos =>
    simp only [h5,if_true]
    rw [z8h (hr.le (by simp;omega))]
    simp only [Option.bind_some]
    rw [zdu (hr.act (by simp [wW];omega)) on]
    simp only [Option.bind_some,z2k]
    have ka:=z067 har oar n (act a (wW [ByteArray.mk #[114,101,99,118]]++wN nm)) (hq.act (by omega)) (hr.act (by simp [wW,wN];omega))
    simp only [z2k,zda,z65,Wr.assoc] at ka
    exact Sn.mono (Sn.up (zu0 (ka.mono (by omega:_≤8*(4+szE e+szC c+szL bo+szL el+szA ar) - 1)))) (by omega)
   case neg =>
   have h5:=Bool.eq_false_iff.2 h5
   simp only [h5,Bool.false_eq_true,if_false]
   by_cases h6:(k==6)=true
   case pos =>
    refine .inl ?_
    simp only [h6,if_true]
    rw [z8h (hr.le (by simp;omega))]
    simp only [Option.bind_some]
    rw [zo2 oc (hq.1.act (by omega)) (hr.act (by simp [wW];omega))]
    simp only [Option.bind_some,z2k,z65]
    rw [z8h (hr.act (by simp [wW];omega))]
    simp only [Option.bind_some,z2k,Wr.assoc]
   case neg =>
   have h6:=Bool.eq_false_iff.2 h6
   simp only [h6,Bool.false_eq_true,if_false]
   by_cases h7:(k==7)=true
   case pos =>
    refine .inl ?_
    simp only [h7,if_true]
    rw [z8h (hr.le (by simp;omega))]
    simp only [Option.bind_some]
    rw [zdu (hr.act (by simp [wW];omega)) on]
    simp only [Option.bind_some,z2k]
    rw [z8h (hr.act (by simp [wN,wW];omega))]
    simp only [Option.bind_some,z2k,Wr.assoc]
   case neg =>
    refine .inl ?_
    have h7:=Bool.eq_false_iff.2 h7
    simp only [h7,Bool.false_eq_true,if_false]
    simp only [zbg,Option.bind_some]
theorem ztg {a:z02} {l:List z05} (ho:okL l) (hq:Lq a (2*szL l)) (hr:Room a (5*szL l)):zbj a l=some (act a (sL l a.f_blocks a.f_parens)) :=
 Sn.unf fun n=>zn4 (fun s h=>z069 _ s (Nat.le_refl _) (zie ho s h).1) n a hq hr
def flatW {β:Type} (g:Nat→β→Wr):Nat→List β→Wr
 | _,[]=>Wr.nil
 | i,x::r=>g i x++flatW g (i+1) r
def sumN {β:Type} (c:β→Nat):List β→Nat
 | []=>0
 | x::r=>c x+sumN c r
theorem zf5 {β:Type} {g:Nat→β→Wr} {c:β→Nat}:∀ {l:List β} {i:Nat},(∀ i,∀ x∈l,(g i x).ws.length≤c x)→(flatW g i l).ws.length≤sumN c l
 | [],i,h=>by simp [flatW,Wr.nil]
 | x::r,i,h=>by
  have h1:=h i x List.mem_cons_self
  have h2:=zf5 (l:=r) (i:=i+1) fun i y hy=>h i y (List.mem_cons_of_mem _ hy)
  simp only [flatW,sumN,Wr.ws_app,List.length_append];omega
def At0 (a:z02):Prop:=a.f_blocks=0∧a.f_parens=0
theorem At0.act {a:z02} {x:Wr} (h:At0 a):At0 (act a x):=h
abbrev TP:=Bool × Bool × Int × Int × List ByteArray
theorem zxb {β O:Type} {body:Int × TP→Option (Sum (Int × TP) (Sum O TP))} {g:Nat→β→Wr} {c:β→Nat} (a1:List β) (hlen:a1.length≤4611686018427387904)
  (hs:∀ (i:Nat) x a,i<a1.length→idx a1 (i:Int)=some x→x∈a1→At0 a→Room a (c x)→IntKind.i64.wrap ((i:Int)+1)=((i+1:Nat):Int)→body ((i:Int),tp a)=some (.inl (((i+1:Nat):Int),tp (act a (g i x)))))
  (he:∀ a,body ((a1.length:Int),tp a)=some (.inr (.inr (tp a)))) (hl:∀ i,∀ x∈a1,(g i x).ws.length≤c x) :
  ∀ (l:List β) (i:Nat) (a:z02),a1.drop i=l→i≤a1.length→At0 a→Room a (sumN c l)→iter body ((i:Int),tp a)=some (.inr (tp (act a (flatW g i l)))):=by
 intro l
 induction l with
 | nil =>
  intro i a hd hi h0 hr
  have:i=a1.length:=by have:=List.drop_eq_nil_iff.1 hd;omega
  subst this
  rw [z4l (he a)]
  simp [flatW,Wr.nil,act,tp]
 | cons s r ih =>
  intro i a hd hi h0 hr
  have hlt:i<a1.length:=by
   refine Nat.lt_of_not_le fun h=>?_
   rw [List.drop_of_length_le h] at hd;cases hd
  rw [List.drop_eq_getElem_cons hlt] at hd
  injection hd with h1 h2
  have hi2:idx a1 (i:Int)=some s:=by rw [zb4 hlt,h1]
  have hw:IntKind.i64.wrap ((i:Int)+1)=((i+1:Nat):Int):=by rw [w64 (by omega) (by omega)];omega
  have hm:s∈a1:=by rw [← h1];exact List.getElem_mem hlt
  simp only [sumN] at hr
  rw [z94 (hs i s a hlt hi2 hm h0 (hr.le (by omega)) hw),ih (i+1) (act a (g i s)) h2 hlt h0.act (hr.act (by have:=hl i s hm;omega))]
  simp only [z2k,flatW]
def wVar (_:Nat) (v:ByteArray):Wr:=wW [(ByteArray.mk #[118,97,114])]++(wN v++wW [(ByteArray.mk #[59])])
def sP (p:z3k):Wr:=wW [(ByteArray.mk #[112,114,111,99])]++(wN p.Name++(wW [(ByteArray.mk #[123])]++(flatW wVar 0 p.Vars++(sL p.Body 0 0++wW [(ByteArray.mk #[125])]))))
def szP (p:z3k):Nat:=1+p.Vars.length+szL p.Body
def okP (p:z3k):Prop:=p.Name.size≤4194304∧(∀ v∈p.Vars,v.size≤4194304)∧okL p.Body
theorem za2 {β:Type} (k:Nat):∀ l:List β,sumN (fun _=>k) l=k*l.length
 | []=>by simp [sumN]
 | x::r=>by simp only [sumN,za2 k r,List.length_cons,Nat.mul_succ];omega
theorem zvk (l:List ByteArray) (i:Nat):(flatW wVar i l).ws.length≤3*l.length:=by
 rw [← za2];exact zf5 fun i x _=>by simp [wVar,wW,wN]
theorem z03o (p:z3k):(sP p).ws.length≤5*szP p:=by
 have h1:=zvk p.Vars 0
 have h2:=zja p.Body 0 0
 unfold sP szP;simp [wW,wN];omega
theorem z095 {a:z02} {p:z3k} (ho:okP p) (h0:At0 a) (hs:szP p≤1152921504606846976) (hr:Room a (5*szP p)):z9d a p=some (act a (sP p)):=by
 obtain ⟨o1,o2,o3⟩:=ho
 unfold szP at hr hs
 have h1:=zvk p.Vars 0
 have h2:=zja p.Body 0 0
 have h3:=z95 p.Body
 unfold z9d
 simp only [Option.bind_eq_bind]
 rw [z8h (hr.le (by simp;omega))]
 simp only [Option.bind_some]
 rw [zdu (hr.act (by simp [wW];omega)) o1]
 simp only [Option.bind_some,z2k]
 rw [z8h (hr.act (by simp [wW,wN];omega))]
 simp only [Option.bind_some,z2k]
 have hlp:=zxb (body:=z7n p) (g:=wVar) (c:=fun _=>3) p.Vars (by omega)
  (fun i x a hi hx hm h0 hr hw=>by
   unfold z7n
   rw [if_pos (by simp;omega)]
   simp only [hx,Option.bind_eq_bind,Option.bind_some,hw]
   show ((z0f a _).bind _)=_
   rw [z8h (hr.le (by simp))]
   simp only [Option.bind_some]
   rw [zdu (hr.act (by simp [wW])) (o2 x hm)]
   simp only [Option.bind_some,z2k]
   rw [z8h (hr.act (by simp [wW,wN]))]
   simp only [Option.bind_some,z2k,Wr.assoc]
   rfl)
  (fun a=>by unfold z7n;rw [if_neg (by simp)])
  (fun i x _=>by simp [wVar,wW,wN]) p.Vars 0 (act a (wW [ByteArray.mk #[112,114,111,99]]++wN p.Name++wW [ByteArray.mk #[123]])) rfl (by omega) h0.act (by rw [za2];exact hr.act (by simp [wW,wN];omega))
 have e0:(((0:Nat):Int),tp (act a (wW [ByteArray.mk #[112,114,111,99]]++wN p.Name++wW [ByteArray.mk #[123]])))=((0:Int),(act a (wW [ByteArray.mk #[112,114,111,99]]++wN p.Name++wW [ByteArray.mk #[123]])).f_form,(act a (wW [ByteArray.mk #[112,114,111,99]]++wN p.Name++wW [ByteArray.mk #[123]])).f_deep,(act a (wW [ByteArray.mk #[112,114,111,99]]++wN p.Name++wW [ByteArray.mk #[123]])).f_blocks,(act a (wW [ByteArray.mk #[112,114,111,99]]++wN p.Name++wW [ByteArray.mk #[123]])).f_parens,(act a (wW [ByteArray.mk #[112,114,111,99]]++wN p.Name++wW [ByteArray.mk #[123]])).f_out):=rfl
 rw [← e0,hlp]
 simp only [Option.bind_some,Sum.elim_inr,z2k]
 show ((zbj (act a _) p.Body).bind _)=_
 have hq:Lq (act a (wW [ByteArray.mk #[112,114,111,99]]++wN p.Name++wW [ByteArray.mk #[123]]++flatW wVar 0 p.Vars)) (2*szL p.Body):=by
  refine ⟨⟨?_,?_⟩,?_,?_⟩ <;> simp [h0.1,h0.2] <;> omega
 rw [ztg o3 hq (hr.act (by simp [wW,wN];omega))]
 simp only [Option.bind_some,z2k,zda,z65,h0.1,h0.2]
 rw [z8h (hr.act (by simp [wW,wN];omega))]
 simp only [Option.bind_some,z2k,Wr.assoc]
 rfl
def zry (_:Nat) (m:z5d):Wr:=wI m.From++(wN m.Tag++(wI m.To++wW [(ByteArray.mk #[59])]))
def sR (r:z3e):Wr:=wW [(ByteArray.mk #[114,117,108,101])]++(wN r.Chan++(wW [(ByteArray.mk #[123])]++(flatW zry 0 r.Moves++wW [(ByteArray.mk #[125])])))
def szR (r:z3e):Nat:=1+r.Moves.length
def okR (r:z3e):Prop:=r.Chan.size≤4194304∧∀ m∈r.Moves,in64 m.From∧m.Tag.size≤4194304∧in64 m.To
theorem zs1 (l:List z5d) (i:Nat):(flatW zry i l).ws.length≤4*l.length:=by
 rw [← za2];exact zf5 fun i x _=>by simp [zry,wW,wN,wI]
theorem z03p (r:z3e):(sR r).ws.length≤5*szR r:=by
 have h1:=zs1 r.Moves 0
 unfold sR szR;simp [wW,wN];omega
theorem zzm {a:z02} {r:z3e} (ho:okR r) (h0:At0 a) (hs:szR r≤1152921504606846976) (hr:Room a (5*szR r)):z9c a r=some (act a (sR r)):=by
 obtain ⟨o1,o2⟩:=ho
 unfold szR at hr hs
 have h1:=zs1 r.Moves 0
 unfold z9c
 simp only [Option.bind_eq_bind]
 rw [z8h (hr.le (by simp;omega))]
 simp only [Option.bind_some]
 rw [zdu (hr.act (by simp [wW];omega)) o1]
 simp only [Option.bind_some,z2k]
 rw [z8h (hr.act (by simp [wW,wN];omega))]
 simp only [Option.bind_some,z2k]
 have hlp:=zxb (body:=z6k r) (g:=zry) (c:=fun _=>4) r.Moves (by omega)
  (fun i x a hi hx hm h0 hr hw=>by
   unfold z6k
   rw [if_pos (by simp;omega)]
   simp only [hx,Option.bind_eq_bind,Option.bind_some,hw]
   show ((z4x a _).bind _)=_
   rw [zld (hr.le (by omega)) (o2 x hm).1.1 (o2 x hm).1.2]
   simp only [Option.bind_some]
   rw [zdu (hr.act (by simp [wI])) (o2 x hm).2.1]
   simp only [Option.bind_some,z2k]
   rw [zld (hr.act (by simp [wI,wN])) (o2 x hm).2.2.1 (o2 x hm).2.2.2]
   simp only [Option.bind_some,z2k]
   rw [z8h (hr.act (by simp [wI,wN]))]
   simp only [Option.bind_some,z2k,Wr.assoc]
   rfl)
  (fun a=>by unfold z6k;rw [if_neg (by simp)])
  (fun i x _=>by simp [zry,wW,wN,wI]) r.Moves 0 (act a (wW [ByteArray.mk #[114,117,108,101]]++wN r.Chan++wW [ByteArray.mk #[123]])) rfl (by omega) h0.act (by rw [za2];exact hr.act (by simp [wW,wN];omega))
 show (iter (z6k r) (((0:Nat):Int),tp (act a (wW [ByteArray.mk #[114,117,108,101]]++wN r.Chan++wW [ByteArray.mk #[123]])))).bind _=_
 rw [hlp]
 simp only [Option.bind_some,Sum.elim_inr,z2k]
 show ((z0f (act a _) _).bind _)=_
 rw [z8h (hr.act (by simp [wW,wN];omega))]
 simp only [Option.bind_some,z2k,Wr.assoc]
 rfl
def kindOk (k:Int):Bool:=decide (k≥0)&&decide (k<3)
def z06a (k:Int):ByteArray:=match k with
 | 0=>ByteArray.mk #[98,108,111,99,107]|1=>ByteArray.mk #[100,114,111,112]|_=>ByteArray.mk #[108,111,115,115,121]
theorem z02l {k:Int} (h:kindOk k=true):idx [(ByteArray.mk #[98,108,111,99,107]),(ByteArray.mk #[100,114,111,112]),(ByteArray.mk #[108,111,115,115,121])] k=some (z06a k):=by
 unfold kindOk at h
 simp only [Bool.and_eq_true,decide_eq_true_eq] at h
 have:k=0∨k=1∨k=2:=by omega
 rcases this with rfl|rfl|rfl <;> rfl
def wTag (i:Nat) (t:ByteArray):Wr:=if i=0 then wN t else wW [(ByteArray.mk #[44])]++wN t
def sCh (c:z29):Wr:=wW [(ByteArray.mk #[99,104,97,110])]++(wN c.Name++((if kindOk c.Kind then wW [z06a c.Kind] else wM false)++(wI c.Size++(wW [(ByteArray.mk #[102,114,111,109])]++(wN c.From++(wW [(ByteArray.mk #[116,111])]++(wN c.To++(wW [(ByteArray.mk #[123])]++(wM (!c.Tags.isEmpty)++(flatW wTag 0 c.Tags++wW [(ByteArray.mk #[125]),(ByteArray.mk #[59])]))))))))))
def szCh (c:z29):Nat:=3+c.Tags.length
def okCh (c:z29):Prop:=c.Name.size≤4194304∧c.From.size≤4194304∧c.To.size≤4194304∧in64 c.Size∧∀ t∈c.Tags,t.size≤4194304
theorem z00d (i:Nat) (t:ByteArray):(wTag i t).ws.length≤2:=by unfold wTag;split <;> simp [wN,wW]
theorem zvl (l:List ByteArray) (i:Nat):(flatW wTag i l).ws.length≤2*l.length:=by
 rw [← za2];exact zf5 fun i x _=>z00d i x
theorem z00e (c:z29):(sCh c).ws.length≤5*szCh c:=by
 have h1:=zvl c.Tags 0
 unfold sCh szCh;split <;> simp [wW,wN,wI,wM] <;> omega
theorem z00f (c:z29) {body:Int × TP→Option (Sum (Int × TP) (Sum z02 TP))} (hbd:body=z5m c∨body=z5n c) (o:∀ t∈c.Tags,t.size≤4194304) (hlen:c.Tags.length≤4611686018427387904) (a:z02) (h0:At0 a) (hr:Room a (2*c.Tags.length)) :
  iter body (((0:Nat):Int),tp a)=some (.inr (tp (act a (flatW wTag 0 c.Tags)))):=by
 refine zxb (g:=wTag) (c:=fun _=>2) c.Tags hlen (fun i x a hi hx hm h0 hr hw=>?_) (fun a=>?_) (fun i x _=>z00d i x) c.Tags 0 a rfl (by omega) h0 (by rw [za2];exact hr)
 ·have hb:body ((i:Int),tp a)=((if (decide ((i:Int) > 0)) then (z0f a [(ByteArray.mk #[44])]>>=fun v12=>z1h v12 x>>=fun v13=>some (v13.f_form,v13.f_deep,v13.f_blocks,v13.f_parens,v13.f_out))
    else (z1h a x>>=fun v14=>some (v14.f_form,v14.f_deep,v14.f_blocks,v14.f_parens,v14.f_out)):Option TP)>>=fun j3=>some (.inl (((i+1:Nat):Int),j3.1,j3.2.1,j3.2.2.1,j3.2.2.2.1,j3.2.2.2.2))):=by
   rcases hbd with rfl|rfl
   ·unfold z5m
    rw [if_pos (by simp;omega)]
    simp only [hx,Option.bind_eq_bind,Option.bind_some,hw]
    rfl
   ·unfold z5n
    rw [if_pos (by simp;omega)]
    simp only [hx,Option.bind_eq_bind,Option.bind_some,hw]
    rfl
  rw [hb]
  unfold wTag
  by_cases hi0:i=0
  ·subst hi0
   rw [if_neg (by simp),zdu (hr.le (by omega)) (o x hm)]
   rfl
  ·rw [if_pos (by simp;omega),z8h (hr.le (by simp))]
   simp only [Option.bind_eq_bind,Option.bind_some]
   rw [zdu (hr.act (by simp [wW])) (o x hm)]
   simp only [Option.bind_some,z2k,if_neg hi0]
   rfl
 ·rcases hbd with rfl|rfl
  ·unfold z5m;rw [if_neg (by simp)]
  ·unfold z5n;rw [if_neg (by simp)]
theorem zvm {c:z29} {body:Int × TP→Option (Sum (Int × TP) (Sum z02 TP))} (hbd:body=z5m c∨body=z5n c) (ho:okCh c) (hs:szCh c≤1152921504606846976) {a:z02} {X:Wr} (h0:At0 a) (hr:Room a (5*szCh c)) (hX:X.ws.length≤3) :
  (z4x (act a X) c.Size).bind (fun v4=>(z0f v4 [(ByteArray.mk #[102,114,111,109])]).bind fun v5=>(z1h v5 c.From).bind fun v6=>(z0f v6 [(ByteArray.mk #[116,111])]).bind fun v7=>(z1h v7 c.To).bind fun v8=>(z0f v8 [(ByteArray.mk #[123])]).bind fun v9 =>
   (z31 v9 (decide ((c.Tags.length:Int) > 0))).bind fun v10=>(iter body (0,v10.f_form,v10.f_deep,v10.f_blocks,v10.f_parens,v10.f_out)).bind (Sum.elim (fun _=>none) (fun j2 =>
    (z0f (z02.mk j2.2.2.2.2 j2.1 j2.2.1 j2.2.2.1 j2.2.2.2.1) [(ByteArray.mk #[125]),(ByteArray.mk #[59])]).bind fun v15=>some v15)))
  = some (act a (X++(wI c.Size++(wW [(ByteArray.mk #[102,114,111,109])]++(wN c.From++(wW [(ByteArray.mk #[116,111])]++(wN c.To++(wW [(ByteArray.mk #[123])]++(wM (!c.Tags.isEmpty)++(flatW wTag 0 c.Tags++wW [(ByteArray.mk #[125]),(ByteArray.mk #[59])])))))))))):=by
 obtain ⟨o1,o2,o3,o4,o5⟩:=ho
 unfold szCh at hr hs
 have h1:=zvl c.Tags 0
 rw [zld (hr.act (by omega)) o4.1 o4.2]
 simp only [Option.bind_some,z2k]
 rw [z8h (hr.act (by simp [wI];omega))]
 simp only [Option.bind_some,z2k]
 rw [zdu (hr.act (by simp [wI,wW];omega)) o2]
 simp only [Option.bind_some,z2k]
 rw [z8h (hr.act (by simp [wI,wW,wN];omega))]
 simp only [Option.bind_some,z2k]
 rw [zdu (hr.act (by simp [wI,wW,wN];omega)) o3]
 simp only [Option.bind_some,z2k]
 rw [z8h (hr.act (by simp [wI,wW,wN];omega))]
 simp only [Option.bind_some,z2k]
 have he:(decide ((c.Tags.length:Int) > 0))=!c.Tags.isEmpty:=by cases c.Tags <;> simp
 rw [he,zbg]
 simp only [Option.bind_some,z2k]
 have hlp:=z00f c hbd o5 (by omega) (act a (X++wI c.Size++wW [ByteArray.mk #[102,114,111,109]]++wN c.From++wW [ByteArray.mk #[116,111]]++wN c.To++wW [ByteArray.mk #[123]]++wM (!c.Tags.isEmpty))) h0.act (hr.act (by simp [wI,wW,wN,wM];omega))
 show (iter body (((0:Nat):Int),tp (act a (X++wI c.Size++wW [ByteArray.mk #[102,114,111,109]]++wN c.From++wW [ByteArray.mk #[116,111]]++wN c.To++wW [ByteArray.mk #[123]]++wM (!c.Tags.isEmpty))))).bind _=_
 rw [hlp]
 simp only [Option.bind_some,Sum.elim_inr,z2k]
 show ((z0f (act a _) _).bind _)=_
 rw [z8h (hr.act (by simp [wI,wW,wN,wM];omega))]
 simp only [Option.bind_some,z2k,Wr.assoc]
theorem z096 {a:z02} {c:z29} (ho:okCh c) (h0:At0 a) (hs:szCh c≤1152921504606846976) (hr:Room a (5*szCh c)):z7m a c=some (act a (sCh c)):=by
 have hr':=hr
 unfold szCh at hr'
 unfold z7m
 simp only [Option.bind_eq_bind]
 rw [z8h (hr'.le (by simp;omega))]
 simp only [Option.bind_some]
 rw [zdu (hr'.act (by simp [wW];omega)) ho.1]
 have hj:((if decide (c.Kind<0)=true then some true else some (decide (c.Kind≥3))):Option Bool)=some (!kindOk c.Kind):=by
  unfold kindOk
  by_cases h:c.Kind<0
  ·have:¬ (c.Kind≥0):=by omega
   simp [h,this]
  ·have:c.Kind≥0:=by omega
   simp only [h,this,decide_false,decide_true,Bool.false_eq_true,if_false,Bool.true_and]
   by_cases h6:c.Kind<3
   ·have:¬ c.Kind≥3:=by omega
    simp [h6,this]
   ·have:c.Kind≥3:=by omega
    simp [h6,this]
 simp only [Option.bind_some,z2k,hj]
 unfold sCh
 cases hok:kindOk c.Kind
 ·simp only [Bool.not_false,if_true,Bool.false_eq_true,if_false]
  rw [zbg]
  simp only [Option.bind_some,z2k]
  refine (zvm (.inl rfl) ho hs h0 hr (X:=wW [ByteArray.mk #[99,104,97,110]]++wN c.Name++wM false) (by simp [wW,wN,wM])).trans ?_
  simp only [Wr.assoc]
 ·simp only [Bool.not_true,if_true,Bool.false_eq_true,if_false,z02l hok,Option.bind_some]
  rw [z8h (hr'.act (by simp [wW,wN];omega))]
  simp only [Option.bind_some,z2k]
  refine (zvm (.inr rfl) ho hs h0 hr (X:=wW [ByteArray.mk #[99,104,97,110]]++wN c.Name++wW [z06a c.Kind]) (by simp [wW,wN])).trans ?_
  simp only [Wr.assoc]
def sSys (s:z17):Wr:=flatW (fun _=>sCh) 0 s.Chans++(flatW (fun _=>sR) 0 s.Rules++flatW (fun _=>sP) 0 s.Procs)
def zhd (s:z17):Nat:=sumN szCh s.Chans+sumN szR s.Rules+sumN szP s.Procs
def okSys (s:z17):Prop:=(∀ c∈s.Chans,okCh c)∧(∀ c∈s.Rules,okR c)∧(∀ c∈s.Procs,okP c)
def endW (x:Wr):List ByteArray × Int:=if x.bad then ([],5) else if x.dp then ([],6) else if 2000<x.ws.length then ([],4) else (x.ws,0)
theorem zdf {β:Type} {c:β→Nat}:∀ {l:List β} {x:β},x∈l→c x≤sumN c l
 | y::r,x,h=>by
  rcases List.mem_cons.1 h with rfl|h
  ·simp only [sumN];omega
  ·have:=zdf (c:=c) h;simp only [sumN];omega
theorem zh4 {β:Type} {c:β→Nat} (h:∀ x,1≤c x):∀ (l:List β),l.length≤sumN c l
 | []=>by simp
 | x::r=>by have:=zh4 h r;have:=h x;simp only [sumN,List.length_cons];omega
theorem zlf {β:Type} (k:Nat) (c:β→Nat):∀ (l:List β),sumN (fun x=>k*c x) l=k*sumN c l
 | []=>by simp [sumN]
 | x::r=>by simp only [sumN,zlf k c r,Nat.mul_add]
theorem z05f {s:z17} (ho:okSys s) (hs:zhd s≤1000000000000):zhv s=some (endW (sSys s)):=by
 obtain ⟨o1,o2,o3⟩:=ho
 unfold zhd at hs
 have g1:=zf5 (g:=fun _=>sCh) (c:=fun x=>5*szCh x) (l:=s.Chans) (i:=0) fun i x _=>z00e x
 have g2:=zf5 (g:=fun _=>sR) (c:=fun x=>5*szR x) (l:=s.Rules) (i:=0) fun i x _=>z03p x
 have g3:=zf5 (g:=fun _=>sP) (c:=fun x=>5*szP x) (l:=s.Procs) (i:=0) fun i x _=>z03o x
 rw [zlf] at g1 g2 g3
 have n1:=zh4 (c:=szCh) (fun x=>by unfold szCh;omega) s.Chans
 have n2:=zh4 (c:=szR) (fun x=>by unfold szR;omega) s.Rules
 have n3:=zh4 (c:=szP) (fun x=>by unfold szP;omega) s.Procs
 let a0:z02:=⟨[],false,false,0,0⟩
 have h0:At0 a0:=⟨rfl,rfl⟩
 have r0:Room a0 8796093022208:=by unfold Room;simp [a0]
 have w1:=zxb (body:=zaf s) (g:=fun _=>sCh) (c:=fun x=>5*szCh x) s.Chans (by omega)
  (fun i x a hi hx hm h0 hr hw=>by
   unfold zaf
   rw [if_pos (by simp;omega)]
   simp only [hx,Option.bind_eq_bind,Option.bind_some,hw]
   show ((z7m a _).bind _)=_
   have:=zdf (c:=szCh) hm
   rw [z096 (o1 x hm) h0 (by omega) hr]
   rfl)
  (fun a=>by unfold zaf;rw [if_neg (by simp)])
  (fun i x _=>z00e x) s.Chans 0 a0 rfl (by omega) h0 (by rw [zlf];exact r0.le (by omega))
 have w2:=zxb (body:=zag s) (g:=fun _=>sR) (c:=fun x=>5*szR x) s.Rules (by omega)
  (fun i x a hi hx hm h0 hr hw=>by
   unfold zag
   rw [if_pos (by simp;omega)]
   simp only [hx,Option.bind_eq_bind,Option.bind_some,hw]
   show ((z9c a _).bind _)=_
   have:=zdf (c:=szR) hm
   rw [zzm (o2 x hm) h0 (by omega) hr]
   rfl)
  (fun a=>by unfold zag;rw [if_neg (by simp)])
  (fun i x _=>z03p x) s.Rules 0 (act a0 (flatW (fun _=>sCh) 0 s.Chans)) rfl (by omega) h0.act (by rw [zlf];exact r0.act (by omega))
 have w3:=zxb (body:=zah s) (g:=fun _=>sP) (c:=fun x=>5*szP x) s.Procs (by omega)
  (fun i x a hi hx hm h0 hr hw=>by
   unfold zah
   rw [if_pos (by simp;omega)]
   simp only [hx,Option.bind_eq_bind,Option.bind_some,hw]
   show ((z9d a _).bind _)=_
   have:=zdf (c:=szP) hm
   rw [z095 (o3 x hm) h0 (by omega) hr]
   rfl)
  (fun a=>by unfold zah;rw [if_neg (by simp)])
  (fun i x _=>z03o x) s.Procs 0 (act (act a0 (flatW (fun _=>sCh) 0 s.Chans)) (flatW (fun _=>sR) 0 s.Rules)) rfl (by omega) h0.act.act (by rw [zlf,z2k];exact r0.act (by simp only [Wr.ws_app,List.length_append];omega))
 unfold zhv
 show (iter (zaf s) (((0:Nat):Int),tp a0)>>=_)=_
 rw [w1]
 simp only [Option.bind_eq_bind,Option.bind_some,Sum.elim_inr]
 show ((iter (zag s) (((0:Nat):Int),tp (act a0 _))).bind _)=_
 rw [w2]
 simp only [Option.bind_some,Sum.elim_inr]
 show ((iter (zah s) (((0:Nat):Int),tp (act (act a0 _) _))).bind _)=_
 rw [w3]
 simp only [Option.bind_some,Sum.elim_inr,z2k,Wr.assoc]
 have ex:∀ X:Wr,tp (act a0 X)=(X.bad,X.dp,0,0,X.ws):=fun X=>by simp [tp,act,a0]
 rw [ex]
 show _=some (endW (sSys s))
 unfold endW sSys
 generalize (flatW (fun _=>sCh) 0 s.Chans++(flatW (fun _=>sR) 0 s.Rules++flatW (fun _=>sP) 0 s.Procs))=X
 obtain ⟨ws,bad,dp⟩:=X
 cases bad
 ·cases dp
  ·simp only [Bool.false_eq_true,if_false]
   by_cases h:2000<ws.length
   ·rw [if_pos h,if_pos (by simp;omega)]
   ·rw [if_neg h,if_neg (by simp;omega)]
  ·simp
 ·simp
theorem z06b {β γ O:Type} {body:Int × List γ→Option (Sum (Int × List γ) (Sum O (List γ)))} {n H:Nat} (f:β→γ) (a1:List β) (hlen:a1.length≤400000000000)
  (hs:∀ (i:Nat) x acc,i<a1.length→idx a1 (i:Int)=some x→x∈a1→acc.length=i→IntKind.i64.wrap ((i:Int)+1)=((i+1:Nat):Int)→Sn n H (body ((i:Int),acc)) (.inl (((i+1:Nat):Int),acc++[f x])))
  (he:∀ acc,body ((a1.length:Int),acc)=some (.inr (.inr acc))) :
  ∀ (l:List β) (i:Nat) (acc:List γ),a1.drop i=l→i≤a1.length→acc.length=i→Sn n H (iter body ((i:Int),acc)) (.inr (acc++l.map f)):=by
 intro l
 induction l with
 | nil =>
  intro i acc hd hi ha
  have:i=a1.length:=by have:=List.drop_eq_nil_iff.1 hd;omega
  subst this
  exact .inl (by rw [z4l (he acc)];simp)
 | cons s r ih =>
  intro i acc hd hi ha
  have hlt:i<a1.length:=by
   refine Nat.lt_of_not_le fun h=>?_
   rw [List.drop_of_length_le h] at hd;cases hd
  rw [List.drop_eq_getElem_cons hlt] at hd
  injection hd with h1 h2
  have hi2:idx a1 (i:Int)=some s:=by rw [zb4 hlt,h1]
  have hw:IntKind.i64.wrap ((i:Int)+1)=((i+1:Nat):Int):=by rw [w64 (by omega) (by omega)];omega
  have hm:s∈a1:=by rw [← h1];exact List.getElem_mem hlt
  have h3:=hs i s acc hlt hi2 hm ha hw
  have h4:=ih (i+1) (acc++[f s]) h2 hlt (by simp;omega)
  rw [zce]
  refine Sn.bind h3 ?_
  simpa using h4
theorem zn6 {β γ O:Type} {body:Int × List γ→Option (Sum (Int × List γ) (Sum O (List γ)))} {n H:Nat} (f:β→γ) (a1:List β) (hlen:a1.length≤400000000000)
  (hs:∀ (i:Nat) x acc,i<a1.length→idx a1 (i:Int)=some x→x∈a1→acc.length=i→IntKind.i64.wrap ((i:Int)+1)=((i+1:Nat):Int)→Sn n H (body ((i:Int),acc)) (.inl (((i+1:Nat):Int),acc++[f x])))
  (he:∀ acc,body ((a1.length:Int),acc)=some (.inr (.inr acc))):Sn n H (iter body (0,[])) (.inr (a1.map f)):=by
 have:=z06b f a1 hlen hs he a1 0 [] rfl (by omega) rfl
 simpa using this
theorem zlg {β γ O:Type} {body:Int × List γ→Option (Sum (Int × List γ) (Sum O (List γ)))} (f:β→γ) (a1:List β) (hlen:a1.length≤400000000000)
  (hs:∀ (i:Nat) x acc,i<a1.length→idx a1 (i:Int)=some x→x∈a1→acc.length=i→IntKind.i64.wrap ((i:Int)+1)=((i+1:Nat):Int)→body ((i:Int),acc)=some (.inl (((i+1:Nat):Int),acc++[f x])))
  (he:∀ acc,body ((a1.length:Int),acc)=some (.inr (.inr acc))):iter body (0,[])=some (.inr (a1.map f)):=by
 rcases zn6 (n:=0) (H:=0) f a1 hlen (fun i x acc h1 h2 h3 h4 h5=>.inl (hs i x acc h1 h2 h3 h4 h5)) he with h|⟨_,h⟩
 ·exact h
 ·omega
mutual
def cE:z4n→z06
 | ⟨k,n,s,l⟩=>⟨k,n,s,cEs l⟩
def cEs:List z4n→List z06
 | []=>[]
 | e::r=>cE e::cEs r
end
theorem z00g:∀ l,cEs l=l.map cE
 | []=>rfl
 | e::r=>by simp only [cEs,List.map_cons,z00g r]
theorem z00h (e:z06):1≤szE e:=by cases e;simp only [szE];omega
theorem zvn:∀ {l:List z4n} {x:z4n},x∈l→szE (cE x)≤szEs (cEs l)
 | y::r,x,h=>by
  rcases List.mem_cons.1 h with rfl|h
  ·simp only [cEs,szEs];omega
  ·have:=zvn h;simp only [cEs,szEs];omega
theorem zvo:∀ l:List z4n,l.length≤szEs (cEs l)
 | []=>by simp
 | e::r=>by have:=zvo r;have:=z00h (cE e);simp only [cEs,szEs,List.length_cons];omega
theorem cvE:∀ (N:Nat) (e:z4n),szE (cE e)≤N→N≤400000000000→∀ n,Sn n (szE (cE e)) (zbc n e) (cE e):=by
 intro N
 induction N with
 | zero=>intro e he;have:=z00h (cE e);omega
 | succ N ih =>
  intro e he hN n
  obtain ⟨k,m,s,l⟩:=e
  simp only [cE,szE] at he ⊢
  cases n with
  | zero=>exact .inr ⟨rfl,by omega⟩
  | succ n =>
   have hl:=zvo l
   have h:=zn6 (n:=n) (H:=szEs (cEs l)) (body:=zcz (zbc n) ⟨k,m,s,l⟩) cE l (by omega)
    (fun i x acc hi hx hm ha hw=>by
     unfold zcz
     rw [if_pos (by simpa using hi)]
     simp only [hx,Option.bind_eq_bind,Option.bind_some,hw]
     have hz:=zvn hm
     refine Sn.bind (f:=_) ((ih x (by omega) (by omega) n).mono hz) (.inl ?_)
     rw [z7v (by simp;omega)]
     rfl)
    (fun acc=>by unfold zcz;rw [if_neg (by simp)])
   have t2:=(Sn.bind (f:=Sum.elim (fun _=>none) (fun j1=>some (z06.mk k m s j1))) h (.inl (by rw [← z00g];rfl:_=some (z06.mk k m s (cEs l))))).up
   exact t2.mono (by omega)
theorem zu1 {e:z4n} (h:szE (cE e)≤400000000000):zkg e=some (cE e):=Sn.unf fun n=>cvE _ e (Nat.le_refl _) h n
def cC (c:zcg):z4j:=⟨c.Op,cE c.L,cE c.R⟩
theorem z06c {c:zcg} (h:szC (cC c)≤400000000000):zkh c=some (cC c):=by
 unfold szC cC at h
 simp only at h
 unfold zkh
 rw [zu1 (e:=c.L) (by omega),zu1 (e:=c.R) (by omega)]
 rfl
mutual
def cS:z1n→z05
 | .mk k n t e c b l a=>.mk k n t (cE e) (cC c) (cL b) (cL l) (cA a)
def cL:List z1n→List z05
 | []=>[]
 | s::r=>cS s::cL r
def cA:List z8w→List z1r
 | []=>[]
 | .mk t v b::r=>.mk t v (cL b)::cA r
end
def cArm (x:z8w):z1r:=.mk x.Tag x.Var (cL x.Body)
theorem zvp:∀ l,cL l=l.map cS
 | []=>rfl
 | e::r=>by simp only [cL,List.map_cons,zvp r]
theorem zs2:∀ l,cA l=l.map cArm
 | []=>rfl
 | .mk t v b::r=>by simp only [cA,List.map_cons,zs2 r];rfl
theorem z03q:∀ {l:List z1n} {x:z1n},x∈l→szS (cS x)+1≤szL (cL l)
 | y::r,x,h=>by
  have:=z95 (cL r)
  rcases List.mem_cons.1 h with rfl|h
  ·simp only [cL,szL];omega
  ·have:=z03q h;simp only [cL,szL];omega
theorem z03r:∀ {l:List z8w} {x:z8w},x∈l→szL (cL x.Body)≤szA (cA l)
 | .mk t v b::r,x,h=>by
  rcases List.mem_cons.1 h with rfl|h
  ·simp only [cA,szA];show szL (cL b)≤_;omega
  ·have:=z03r h;simp only [cA,szA];omega
theorem z097:∀ l:List z1n,l.length≤szL (cL l):=fun l=>by
 have:=zty (cL l)
 rw [zvp,List.length_map] at this
 rw [zvp];exact this
theorem z03s:∀ l:List z8w,l.length≤szA (cA l):=fun l=>by
 have:=ztz (cA l)
 rw [zs2,List.length_map] at this
 rw [zs2];exact this
theorem cvL:∀ (N:Nat) (l:List z1n),szL (cL l)≤N→N≤400000000000→∀ n,Sn n (szL (cL l)) (z8j n l) (cL l):=by
 intro N
 induction N with
 | zero=>intro l hl;have:=z95 (cL l);omega
 | succ N ih =>
  intro l hl hN n
  cases n with
  | zero=>exact .inr ⟨rfl,z95 _⟩
  | succ n =>
   have hll:=z097 l
   have hp:=z95 (cL l)
   have h:=zn6 (n:=n) (H:=szL (cL l) - 1) (body:=zc7 (z8j n) l) cS l (by omega)
    (fun i x acc hi hx hm ha hw=>by
     obtain ⟨k,nm,tg,e,c,bo,el,ar⟩:=x
     have hz:=z03q hm
     simp only [cS,szS] at hz
     have p1:=z95 (cL bo)
     have p2:=z95 (cL el)
     have p3:=zo7 (cA ar)
     unfold zc7
     rw [if_pos (by simpa using hi)]
     simp only [hx,Option.bind_eq_bind,Option.bind_some,hw]
     dsimp only [z1n.Kind,z1n.Name,z1n.Tag,z1n.E,z1n.C,z1n.Body,z1n.Else,z1n.Arms]
     rw [zu1 (e:=e) (by omega),z06c (c:=c) (by omega)]
     simp only [Option.bind_some]
     have har:=zn6 (n:=n) (H:=szL (cL l) - 1) (body:=zc6 (z8j n) (.mk k nm tg e c bo el ar)) cArm ar (by have:=z03s ar;omega)
      (fun i x acc hi hx hm ha hw=>by
       unfold zc6
       rw [if_pos (by show decide ((i:Int)<(ar.length:Int))=true;simpa using hi)]
       dsimp only [z1n.Arms]
       simp only [hx,Option.bind_eq_bind,Option.bind_some,hw]
       have hz:=z03r hm
       refine Sn.bind (f:=_) ((ih x.Body (by omega) (by omega) n).mono (by omega)) (.inl ?_)
       have:=z03s ar
       rw [z7v (by simp;omega)]
       rfl)
      (fun acc=>by unfold zc6;rw [if_neg (by simp [z1n.Arms])])
     have kb:=(ih bo (by omega) (by omega) n).mono (by omega:_≤szL (cL l) - 1)
     have ke:=(ih el (by omega) (by omega) n).mono (by omega:_≤szL (cL l) - 1)
     have fin:∀ v9,Sn n (szL (cL l) - 1) ((app 288 acc [v9]).bind fun v9=>some (Sum.inl (((i+1:Nat):Int),v9)):Option (Sum (Int × List z05) (Sum (List z05) (List z05)))) (.inl (((i+1:Nat):Int),acc++[v9])):=fun v9=>.inl (by rw [z7v (by simp;omega)];rfl)
     refine Sn.bind (f:=_) kb (Sn.bind (f:=_) ke (Sn.bind (f:=_) har ?_))
     have:=fin (.mk k nm tg (cE e) (cC c) (cL bo) (cL el) (ar.map cArm))
     rw [← zs2] at this
     simp only [cS]
     rw [← zs2]
     exact this)
    (fun acc=>by unfold zc7;rw [if_neg (by simp)])
   have t2:=(Sn.bind (f:=Sum.elim (fun _=>none) (fun j1=>some j1)) h (.inl (by rw [← zvp];rfl:_=some (cL l)))).up
   exact t2.mono (by omega)
theorem z02m {l:List z1n} (h:szL (cL l)≤400000000000):znu l=some (cL l):=Sn.unf fun n=>cvL _ l (Nat.le_refl _) h n
def cCh (c:zbi):z29:=⟨c.Name,c.Kind,c.Size,c.From,c.To,c.Tags⟩
def cMo (m:z3y):z5d:=⟨m.From,m.Tag,m.To⟩
def cRu (r:zfa):z3e:=⟨r.Chan,r.Moves.map cMo⟩
def cPr (p:z8p):z3k:=⟨p.Name,p.Vars,cL p.Body⟩
def cSys (s:z63):z17:=⟨s.Chans.map cCh,s.Rules.map cRu,s.Procs.map cPr⟩
theorem zvq {β γ:Type} (c:γ→Nat) (f:β→γ):∀ l:List β,sumN c (l.map f)=sumN (fun x=>c (f x)) l
 | []=>rfl
 | x::r=>by simp only [List.map_cons,sumN,zvq c f r]
theorem z089 {s:z63} (h:zhd (cSys s)≤400000000000):zee s=some (cSys s):=by
 unfold zhd cSys at h
 simp only [zvq] at h
 have n1:=zh4 (c:=fun x=>szCh (cCh x)) (fun x=>by unfold szCh;omega) s.Chans
 have n2:=zh4 (c:=fun x=>szR (cRu x)) (fun x=>by unfold szR;omega) s.Rules
 have n3:=zh4 (c:=fun x=>szP (cPr x)) (fun x=>by unfold szP;omega) s.Procs
 unfold zee
 rw [zlg (body:=zar s) cCh s.Chans (by omega) (fun i x acc hi hx hm ha hw=>by
   unfold zar
   rw [if_pos (by simpa using hi)]
   simp only [hx,Option.bind_eq_bind,Option.bind_some,hw]
   have hz:=zdf (c:=fun x=>szCh (cCh x)) hm
   have hz2:szCh (cCh x)=3+x.Tags.length:=rfl
   rw [z7v (by simp;omega)]
   simp only [Option.bind_some,List.nil_append]
   rw [z7v (by simp;omega)]
   rfl) (fun acc=>by unfold zar;rw [if_neg (by simp)])]
 simp only [Option.bind_eq_bind,Option.bind_some,Sum.elim_inr]
 rw [zlg (body:=zat s) cRu s.Rules (by omega) (fun i x acc hi hx hm ha hw=>by
   unfold zat
   rw [if_pos (by simpa using hi)]
   simp only [hx,Option.bind_eq_bind,Option.bind_some,hw]
   have hz:=zdf (c:=fun x=>szR (cRu x)) hm
   have hz2:szR (cRu x)=1+(x.Moves.map cMo).length:=rfl
   rw [List.length_map] at hz2
   rw [zlg (body:=zas s ((i:Int),acc)) cMo x.Moves (by omega) (fun j y ac hj hy hym hya hw=>by
    unfold zas
    simp only [hx,Option.bind_eq_bind,Option.bind_some]
    rw [if_pos (by simpa using hj)]
    simp only [hy,Option.bind_eq_bind,Option.bind_some,hw]
    rw [z7v (by simp;omega)]
    rfl) (fun ac=>by unfold zas;simp only [hx,Option.bind_eq_bind,Option.bind_some];rw [if_neg (by simp)])]
   simp only [Option.bind_some,Sum.elim_inr]
   rw [z7v (by simp;omega)]
   rfl) (fun acc=>by unfold zat;rw [if_neg (by simp)])]
 simp only [Option.bind_some,Sum.elim_inr]
 rw [zlg (body:=zau s) cPr s.Procs (by omega) (fun i x acc hi hx hm ha hw=>by
   unfold zau
   rw [if_pos (by simpa using hi)]
   simp only [hx,Option.bind_eq_bind,Option.bind_some,hw]
   have hz:=zdf (c:=fun x=>szP (cPr x)) hm
   have hz2:szP (cPr x)=1+x.Vars.length+szL (cL x.Body):=rfl
   rw [z7v (by simp;omega)]
   simp only [Option.bind_some,List.nil_append]
   rw [z02m (by omega)]
   simp only [Option.bind_some]
   rw [z7v (by simp;omega)]
   rfl) (fun acc=>by unfold zau;rw [if_neg (by simp)])]
 rfl
theorem z9v {b:UInt8} (h:isL b=true):zp7 ⟨#[b]⟩=true:=by
 have hA:isA b=true:=by simp [isA,h]
 have hr:runL [b]=1:=by rw [zo6,if_pos hA];rfl
 have hres:¬ ([b]:Bs)∈resv:=by
  intro hm
  unfold resv at hm
  simp at hm
 have hw:zmx [b]=.ok ⟨1,1,0⟩:=by
  rw [zpc,if_pos h,hr,if_neg (by omega),if_neg (by simpa using hres)]
 have hB:isB b=false:=by
  unfold isL at h
  simp only [Bool.and_eq_true,decide_eq_true_eq] at h
  unfold isB
  rw [Bool.or_eq_false_iff]
  constructor
  ·refine beq_eq_false_iff_ne.2 ?_
   rintro rfl
   exact absurd h.1 (by decide)
  ·refine beq_eq_false_iff_ne.2 ?_
   rintro rfl
   exact absurd h.1 (by decide)
 have hl:lexS [b] 0=([⟨1,[b],0,0⟩],none):=by
  rw [z004 hB hw]
  simp [zvf]
 unfold zp7
 show (let v:=finT 1 (lexS [b] 0);_)=true
 rw [hl]
 simp only [finT,told,List.length_singleton]
 rw [if_neg (by omega)]
 simp [tokT]
theorem z09z:zrs 1=ByteArray.mk #[49]:=by kernel_rfl
theorem z08b {i:Nat} (h:i<4611686018427387904):IntKind.i64.wrap ((i:Int)+1)=((i+1:Nat):Int):=by rw [w64 (by omega) (by omega)];omega
theorem z01v {n:Int}:(n != n)=false:=by simp
end Go.Proofs.YtimbigpplbbjaaaGreatDoor.Abs.Wri
