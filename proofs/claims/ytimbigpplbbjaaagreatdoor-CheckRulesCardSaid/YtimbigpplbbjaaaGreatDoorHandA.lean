/- Contracts by hand for the printed walks: strconv.Itoa, strings.IndexByte, lex.number; the tables that the program lays. No conditions of its own. -/
import Derived.Test.YtimbigpplbbjaaaGreatDoorEvG
import Derived.Test.YtimbigpplbbjaaaGreatDoorShelfA
import Derived.Lib.LaidTab
import Derived.Lib.ItoaNum
import Derived.Lib.AppendIntMem
import Derived.Lib.AtoiErrMem
import Derived.Lib.Hide
import Derived.Deep.DeepFit
namespace Go.Proofs.YtimbigpplbbjaaaGreatDoor.Abs
open Go Go.RowKit Go.Shelf
set_option linter.unusedVariables false
set_option linter.unusedSimpArgs false
structure EV where
 t1:TypeId
 p1:Value
 t2:TypeId
 p2:Value
def z07s:List PV:=Lib.pow10Tab.map fun z=>.int .u64 z
def GX (X:EV):Nat→Option (List PV):=fun g=>match g with
 | 0=>some [.str (ByteArray.mk #[98,108,111,99,107]),.str (ByteArray.mk #[100,114,111,112]),.str (ByteArray.mk #[108,111,115,115,121])]
 | 1=>some [.str (ByteArray.mk #[43]),.str (ByteArray.mk #[45]),.str (ByteArray.mk #[42]),.str (ByteArray.mk #[47]),.str (ByteArray.mk #[37])]
 | 2=>some [.str (ByteArray.mk #[61,61]),.str (ByteArray.mk #[33,61]),.str (ByteArray.mk #[60]),.str (ByteArray.mk #[60,61]),.str (ByteArray.mk #[62]),.str (ByteArray.mk #[62,61])]
 | 3=>some [.cst (.iface X.t1 X.p1)]
 | 4=>some [.cst (.iface X.t2 X.p2)]
 | 8=>some z07s
 | _=>none
theorem L2.ints {w:World} {J:Nat→Prop} {k:IntKind}:∀ {zs:List Int} {us:List Value},L2 (Rd w J) (zs.map fun z=>.int k z) us→us=zs.map fun z=>.int k z
 | [],us,h=>h.unnil
 | z::zs,us,h=>by
  obtain ⟨u,us',rfl,hu,hr⟩:=h.uncons
  rw [z5i hu,L2.ints hr];rfl
theorem zi9 {P:Program} {G:Nat→Option (List PV)} {f:FuncId} {args res:List XV} {v:Value} (hp:res.all XV.pure=true) (hR:∀ η J w,Rs η J w res v)
  (h:∀ η J w (vs:List Value),Ok G η J w []→L2 (XVr η J w) args vs→Calls P f vs.toArray w fun e w'=>e=.returned v∧Below w.heap.size w w'):zng P G f args res:=by
 intro η J w vs hok hl
 refine (h η J w vs hok hl).mono ?_
 rintro e w' ⟨rfl,hb⟩
 have hJ:∀ b,J b→w'.heap[b]?=w.heap[b]?:=fun b hb'=>hb.block b (hok.jlt b hb')
 exact ⟨v,η,J,res,[],rfl,⟨rfl,hp,rfl⟩,hR η J w',⟨hok.len,fun b hb'=>Nat.lt_of_lt_of_le (hok.jlt b hb') hb.size,fun b o ho=>by simp at ho,fun b c o o' k ho=>by simp at ho,fun b o k ho=>by simp at ho,hok.glob.mono (fun _ h=>h) hJ⟩,
  ⟨fun _ h=>h,hb.os,hb.tape,hb.output,hb.size,fun k hk _=>hb.block k hk,fun k hk=>.inl hk,Nat.le_refl _,fun b o k ho=>by simp at ho,fun b o hlt ho=>by simp at ho⟩⟩
def zrs (n:Int):ByteArray:=⟨(Lib.itoa n).toArray⟩
def itoa (n:Int):Option ByteArray:=if -9223372036854775808≤n∧n≤9223372036854775807 then some (zrs n) else none
theorem zz6 {X:EV} {a0:Int} {r:ByteArray} (h:itoa a0=some r):Cv Tryz.prog (GX X) 162 [.c (.pv (.int .i64 a0))] [.c (.pv (.str r))]:=by
 refine ⟨Tryz.call162,?_⟩
 unfold itoa at h
 split at h
 ·rename_i hr
  injection h with h
  subst h
  refine zi9 (v:=.string (zrs a0)) rfl (fun η J w=>Rd.str _) (fun η J w vs hok hl=>?_)
  obtain ⟨v,vs',rfl,hv,hn⟩:=hl.uncons
  obtain rfl:=hn.unnil
  obtain rfl:=z5i hv
  obtain ⟨_,us,T,fz,hu,hh⟩:=hok.glob 8 z07s rfl
  have hus:=L2.ints hu
  have ht:Lib.TabIs Tryz.prog w "internal/strconv.uint64pow10" .u64 Lib.pow10Tab:=by
   unfold Lib.TabIs World.var?
   rw [show Tryz.prog.globalNamed "internal/strconv.uint64pow10" = some 8 by kernel_rfl]
   simp only [Option.bind_some,hh,hus]
  refine (Tryz.strconv_Itoa a0 hr.1 hr.2 w ht).mono ?_
  rintro e w' ⟨rfl,k,os,rfl⟩
  exact ⟨rfl,Lib.below_grow _ w (Nat.le_refl _) k os⟩
 ·cases h
def zt5 (a0:ByteArray) (a1:Int):Option Int:=some (Lib.indexByte a0.data.toList a1.toNat.toUInt8)
theorem zwu {X:EV} {a0:ByteArray} {a1 r:Int} (h:zt5 a0 a1=some r):Cv Tryz.prog (GX X) 152 [.c (.pv (.str a0)),.c (.pv (.int .u8 a1))] [.c (.pv (.int .i64 r))]:=by
 refine ⟨Tryz.call152,?_⟩
 obtain rfl:=Option.some.inj h
 refine zi9 (v:=.int .i64 (Lib.indexByte a0.data.toList a1.toNat.toUInt8)) rfl (fun η J w=>Rd.int _ _) (fun η J w vs hok hl=>?_)
 obtain ⟨v,vs',rfl,hv,hn⟩:=hl.uncons
 obtain ⟨v2,vs2,rfl,hv2,hn⟩:=hn.uncons
 obtain rfl:=hn.unnil
 obtain rfl:=zhf hv
 obtain rfl:=z5i hv2
 refine (Tryz.strings_IndexByte a0 a1 w).mono ?_
 rintro e w' ⟨rfl,rfl⟩
 exact ⟨rfl,Below.refl _ _⟩
def bt (s:ByteArray) (i:Int):Int:=if h:i.toNat<s.size then ((s[i.toNat]'h).toNat:Int) else 0
theorem zz8 (s:ByteArray) (i:Int):∀ h:i.toNat<s.size,((s[i.toNat]'h).toNat:Int)=bt s i:=fun h=>by simp [bt,h]
theorem zeh {B:Nat} {w w1 w2:World} (h:Below B w w1) (hB:B≤w1.heap.size) (k:Below w1.heap.size w1 w2):Below B w w2 :=
 h.trans ⟨k.os,k.tape,k.output,k.size,fun i hi=>k.block i (Nat.lt_of_lt_of_le hi hB)⟩
theorem cell_below {w w1:World} (h:Below w.heap.size w w1) {a:Addr} {v:Value} (hc:w.cell? a=some v):w1.cell? a=some v:=(h.cell (World.block_lt_of_cell? w a hc)).trans hc
def Laid (w:World):Prop :=
 (∃ te pe,w.cell? ⟨3,0,none⟩=some (.iface te pe))∧(∃ te pe,w.cell? ⟨4,0,none⟩=some (.iface te pe))
theorem Laid.below {w w':World} (h:Laid w) (hb:Below w.heap.size w w'):Laid w':=by
 obtain ⟨⟨te,pe,h1⟩,⟨te2,pe2,h2⟩⟩:=h
 exact ⟨⟨te,pe,cell_below hb h1⟩,⟨te2,pe2,cell_below hb h2⟩⟩
def digs:List UInt8:=[48,49,50,51,52,53,54,55,56,57]
def znv (a0:ByteArray):Option (Int × Int) :=
  if a0.size≤140737488351232 then
    (if Lib.trimS a0.data.toList digs≠[]∨(1<a0.size∧bt a0 0=48) then some (0,3)
     else match Lib.parseIntB 32 a0.data.toList with
      | .ok v=>some (v,0)
      | _=>some (0,3))
  else none
theorem zcc (s:ByteArray) (w:World) (hs:s.size≤9223372036854775807) :
  Calls Tryz.prog 150 #[.string s,.string ⟨#[48,49,50,51,52,53,54,55,56,57]⟩] w fun e w'=>e=.returned (.string ⟨(Lib.trimS s.data.toList digs).toArray⟩)∧Below w.heap.size w w' :=
 Any.strings_Trim_laid Tryz.lays160 (by kernel_rfl) s ⟨#[48,49,50,51,52,53,54,55,56,57]⟩ w hs (by decide) (ascii_of_all (by decide))
set_option maxRecDepth 100000 in
set_option maxHeartbeats 1000000 in
theorem ztb (s:ByteArray) (w:World) (hs:s.size≤140737488351232) (ht:Lib.trimS s.data.toList digs≠[]) :
  Calls Tryz.prog 128 #[.string s] w fun e w'=>e=.returned (.tuple #[.int .i64 0,.int .i64 3])∧Below w.heap.size w w':=by
 have hcon:=Lib.hid (zcc s w (by omega))
 have hne:((⟨(Lib.trimS s.data.toList digs).toArray⟩:ByteArray).toList.isEmpty)=false:=by simpa using ht
 generalize (⟨(Lib.trimS s.data.toList digs).toArray⟩:ByteArray)=r at hcon hne
 have hne2:!r.toList.isEmpty:=by simp [hne]
 have hne3:¬ (r.toList=[]):=by intro h;rw [h] at hne;simp at hne
 go_enter Tryz.func128,Tryz.ntmps128
 go_wp2_with (go_at_call 150;refine hcon.out.mono ?_;rintro e w' ⟨rfl,hB⟩)
 go_ret2
 exact ⟨rfl,hB⟩
set_option maxRecDepth 100000 in
set_option maxHeartbeats 1000000 in
theorem zq0 (s:ByteArray) (w:World) (hs:s.size≤140737488351232) (ht:Lib.trimS s.data.toList digs=[]) (h1:1<s.size) (h0:bt s 0=48) :
  Calls Tryz.prog 128 #[.string s] w fun e w'=>e=.returned (.tuple #[.int .i64 0,.int .i64 3])∧Below w.heap.size w w':=by
 have hcon:=zcc s w (by omega)
 rw [ht] at hcon
 have hcon:=Lib.hid hcon
 have h2:=zz8 s 0
 rw [h0] at h2
 have h3:=h2 (by omega)
 have h3':((s[0].toNat:Int)==48)=true:=by simpa using h3
 clear h2 h0 ht h3
 go_enter Tryz.func128,Tryz.ntmps128
 go_wp2_with (go_at_call 150;refine hcon.out.mono ?_;rintro e w' ⟨rfl,hB⟩)
 go_ret2
 exact ⟨rfl,hB⟩
set_option maxRecDepth 100000 in
set_option maxHeartbeats 1000000 in
theorem zx1 (s:ByteArray) (w:World) (v:Int) (hs:s.size≤140737488351232) (ht:Lib.trimS s.data.toList digs=[]) (h1:¬ 1<s.size) (hp:Lib.parseIntB 32 s.data.toList=.ok v) :
  Calls Tryz.prog 128 #[.string s] w fun e w'=>e=.returned (.tuple #[.int .i64 v,.int .i64 0])∧Below w.heap.size w w':=by
 have hcon:=zcc s w (by omega)
 rw [ht] at hcon
 have hcon:=Lib.hid hcon
 clear ht
 have hc2:=Lib.hid (fun (W:World)=>Tryz.strconv_ParseInt_10_at32_ok s (by omega) v hp W)
 clear hp
 go_enter Tryz.func128,Tryz.ntmps128
 go_wp2_with (first|(go_at_call 150;refine hcon.out.mono ?_;rintro e w' ⟨rfl,hB⟩)|(go_at_call 151;refine (hc2.out _).mono ?_;rintro e w2 ⟨rfl,hq⟩))
 go_ret2
 exact ⟨rfl,by
  rcases hq with rfl|⟨t,rfl⟩
  ·exact hB
  ·exact zeh hB hB.size (Lib.bytesWorld_below _ _ _)⟩
set_option maxRecDepth 100000 in
set_option maxHeartbeats 1000000 in
theorem zx2 (s:ByteArray) (w:World) (v:Int) (hs:s.size≤140737488351232) (ht:Lib.trimS s.data.toList digs=[]) (h1:1<s.size) (h0:bt s 0≠48) (hp:Lib.parseIntB 32 s.data.toList=.ok v) :
  Calls Tryz.prog 128 #[.string s] w fun e w'=>e=.returned (.tuple #[.int .i64 v,.int .i64 0])∧Below w.heap.size w w':=by
 have hcon:=zcc s w (by omega)
 rw [ht] at hcon
 have hcon:=Lib.hid hcon
 have h2:=zz8 s 0 (by simpa using (by omega:0<s.size))
 have h3:((s[0].toNat:Int)==48)=false:=by
  rw [beq_eq_false_iff_ne];intro hh;exact h0 (h2.symm.trans hh)
 clear h2 h0 ht
 have hc2:=Lib.hid (fun (W:World)=>Tryz.strconv_ParseInt_10_at32_ok s (by omega) v hp W)
 clear hp
 go_enter Tryz.func128,Tryz.ntmps128
 go_wp2_with (first|(go_at_call 150;refine hcon.out.mono ?_;rintro e w' ⟨rfl,hB⟩)|(go_at_call 151;refine (hc2.out _).mono ?_;rintro e w2 ⟨rfl,hq⟩))
 go_ret2
 exact ⟨rfl,by
  rcases hq with rfl|⟨t,rfl⟩
  ·exact hB
  ·exact zeh hB hB.size (Lib.bytesWorld_below _ _ _)⟩
set_option maxRecDepth 100000 in
set_option maxHeartbeats 1000000 in
theorem ztc (s:ByteArray) (w:World)  (hs:s.size≤140737488351232) (ht:Lib.trimS s.data.toList digs=[]) (h1:¬ 1<s.size) (hL:Laid w) (hp:Lib.parseIntB 32 s.data.toList=Lib.NumEnd.ofOption none) :
  Calls Tryz.prog 128 #[.string s] w fun e w'=>e=.returned (.tuple #[.int .i64 0,.int .i64 3])∧Below w.heap.size w w':=by
 have hcon:=zcc s w (by omega)
 rw [ht] at hcon
 have hcon:=Lib.hid hcon
 clear ht
 have hc2:=Lib.hid (fun (W:World) (ev:Value) (hv:W.cell? ⟨3,0,none⟩=some ev) (hev:ev=.nilIface∨∃ te pe,ev=.iface te pe)=>Tryz.strconv_ParseInt_10_at32_none s (by omega) hp ev W hv hev)
 have hL:=Lib.hid hL
 clear hp
 go_enter Tryz.func128,Tryz.ntmps128
 go_wp2_with (first|(go_at_call 150;refine hcon.out.mono ?_;rintro e w' ⟨rfl,hB⟩)|(go_at_call 151;obtain ⟨⟨te,pe,hv⟩,-⟩:=hL.out.below hB;have hv:=Lib.hid hv;refine (hc2.out _ _ (by exact hv.out) (.inr ⟨te,pe,rfl⟩)).mono ?_;rintro e w2 ⟨N,rfl,-,-,hb2⟩))
 go_ret2
 exact ⟨rfl,zeh hB hB.size hb2⟩
set_option maxRecDepth 100000 in
set_option maxHeartbeats 1000000 in
theorem ztd (s:ByteArray) (w:World)  (hs:s.size≤140737488351232) (ht:Lib.trimS s.data.toList digs=[]) (h1:1<s.size) (h0:bt s 0≠48) (hL:Laid w) (hp:Lib.parseIntB 32 s.data.toList=Lib.NumEnd.ofOption none) :
  Calls Tryz.prog 128 #[.string s] w fun e w'=>e=.returned (.tuple #[.int .i64 0,.int .i64 3])∧Below w.heap.size w w':=by
 have hcon:=zcc s w (by omega)
 rw [ht] at hcon
 have hcon:=Lib.hid hcon
 have h2:=zz8 s 0 (by simpa using (by omega:0<s.size))
 have h3:((s[0].toNat:Int)==48)=false:=by
  rw [beq_eq_false_iff_ne];intro hh;exact h0 (h2.symm.trans hh)
 clear h2 h0 ht
 have hc2:=Lib.hid (fun (W:World) (ev:Value) (hv:W.cell? ⟨3,0,none⟩=some ev) (hev:ev=.nilIface∨∃ te pe,ev=.iface te pe)=>Tryz.strconv_ParseInt_10_at32_none s (by omega) hp ev W hv hev)
 have hL:=Lib.hid hL
 clear hp
 go_enter Tryz.func128,Tryz.ntmps128
 go_wp2_with (first|(go_at_call 150;refine hcon.out.mono ?_;rintro e w' ⟨rfl,hB⟩)|(go_at_call 151;obtain ⟨⟨te,pe,hv⟩,-⟩:=hL.out.below hB;have hv:=Lib.hid hv;refine (hc2.out _ _ (by exact hv.out) (.inr ⟨te,pe,rfl⟩)).mono ?_;rintro e w2 ⟨N,rfl,-,-,hb2⟩))
 go_ret2
 exact ⟨rfl,zeh hB hB.size hb2⟩
set_option maxRecDepth 100000 in
set_option maxHeartbeats 1000000 in
theorem zte (s:ByteArray) (w:World)  (hs:s.size≤140737488351232) (ht:Lib.trimS s.data.toList digs=[]) (h1:¬ 1<s.size) (hL:Laid w) (hp:Lib.parseIntB 32 s.data.toList=.range) :
  Calls Tryz.prog 128 #[.string s] w fun e w'=>e=.returned (.tuple #[.int .i64 0,.int .i64 3])∧Below w.heap.size w w':=by
 have hcon:=zcc s w (by omega)
 rw [ht] at hcon
 have hcon:=Lib.hid hcon
 clear ht
 have hc2:=Lib.hid (fun (W:World) (ev:Value) (hv:W.cell? ⟨4,0,none⟩=some ev) (hev:ev=.nilIface∨∃ te pe,ev=.iface te pe)=>Tryz.strconv_ParseInt_10_at32_range s (by omega) hp ev W hv hev)
 have hL:=Lib.hid hL
 clear hp
 go_enter Tryz.func128,Tryz.ntmps128
 go_wp2_with (first|(go_at_call 150;refine hcon.out.mono ?_;rintro e w' ⟨rfl,hB⟩)|(go_at_call 151;obtain ⟨-,⟨te,pe,hv⟩⟩:=hL.out.below hB;have hv:=Lib.hid hv;refine (hc2.out _ _ (by exact hv.out) (.inr ⟨te,pe,rfl⟩)).mono ?_;rintro e w2 ⟨N,rfl,-,-,hb2⟩))
 go_ret2
 exact ⟨rfl,zeh hB hB.size hb2⟩
set_option maxRecDepth 100000 in
set_option maxHeartbeats 1000000 in
theorem ztf (s:ByteArray) (w:World)  (hs:s.size≤140737488351232) (ht:Lib.trimS s.data.toList digs=[]) (h1:1<s.size) (h0:bt s 0≠48) (hL:Laid w) (hp:Lib.parseIntB 32 s.data.toList=.range) :
  Calls Tryz.prog 128 #[.string s] w fun e w'=>e=.returned (.tuple #[.int .i64 0,.int .i64 3])∧Below w.heap.size w w':=by
 have hcon:=zcc s w (by omega)
 rw [ht] at hcon
 have hcon:=Lib.hid hcon
 have h2:=zz8 s 0 (by simpa using (by omega:0<s.size))
 have h3:((s[0].toNat:Int)==48)=false:=by
  rw [beq_eq_false_iff_ne];intro hh;exact h0 (h2.symm.trans hh)
 clear h2 h0 ht
 have hc2:=Lib.hid (fun (W:World) (ev:Value) (hv:W.cell? ⟨4,0,none⟩=some ev) (hev:ev=.nilIface∨∃ te pe,ev=.iface te pe)=>Tryz.strconv_ParseInt_10_at32_range s (by omega) hp ev W hv hev)
 have hL:=Lib.hid hL
 clear hp
 go_enter Tryz.func128,Tryz.ntmps128
 go_wp2_with (first|(go_at_call 150;refine hcon.out.mono ?_;rintro e w' ⟨rfl,hB⟩)|(go_at_call 151;obtain ⟨-,⟨te,pe,hv⟩⟩:=hL.out.below hB;have hv:=Lib.hid hv;refine (hc2.out _ _ (by exact hv.out) (.inr ⟨te,pe,rfl⟩)).mono ?_;rintro e w2 ⟨N,rfl,-,-,hb2⟩))
 go_ret2
 exact ⟨rfl,zeh hB hB.size hb2⟩
theorem zrt (a0:ByteArray) (r1:Int) (r2:Int) (w:World) (h:znv a0=some (r1,r2)) (hL:Laid w) :
  Calls Tryz.prog 128 #[.string a0] w fun e w'=>e=.returned (.tuple #[.int .i64 r1,.int .i64 r2])∧Below w.heap.size w w':=by
 unfold znv at h
 by_cases hs:a0.size≤140737488351232
 ·rw [if_pos hs] at h
  by_cases ht:Lib.trimS a0.data.toList digs=[]
  ·by_cases h1:1<a0.size
   ·by_cases h0:bt a0 0=48
    ·rw [if_pos (.inr ⟨h1,h0⟩)] at h
     obtain ⟨rfl,rfl⟩:=Prod.mk.inj (Option.some.inj h)
     exact zq0 a0 w hs ht h1 h0
    ·rw [if_neg (by rintro (h|⟨_,h⟩);exact h ht;exact h0 h)] at h
     rcases hp:Lib.parseIntB 32 a0.data.toList with v|_|_
     ·rw [hp] at h;obtain ⟨rfl,rfl⟩:=Prod.mk.inj (Option.some.inj h);exact zx2 a0 w _ hs ht h1 h0 hp
     ·rw [hp] at h;obtain ⟨rfl,rfl⟩:=Prod.mk.inj (Option.some.inj h);exact ztd a0 w hs ht h1 h0 hL hp
     ·rw [hp] at h;obtain ⟨rfl,rfl⟩:=Prod.mk.inj (Option.some.inj h);exact ztf a0 w hs ht h1 h0 hL hp
   ·rw [if_neg (by rintro (h|⟨h,_⟩);exact h ht;exact h1 h)] at h
    rcases hp:Lib.parseIntB 32 a0.data.toList with v|_|_
    ·rw [hp] at h;obtain ⟨rfl,rfl⟩:=Prod.mk.inj (Option.some.inj h);exact zx1 a0 w _ hs ht h1 hp
    ·rw [hp] at h;obtain ⟨rfl,rfl⟩:=Prod.mk.inj (Option.some.inj h);exact ztc a0 w hs ht h1 hL hp
    ·rw [hp] at h;obtain ⟨rfl,rfl⟩:=Prod.mk.inj (Option.some.inj h);exact zte a0 w hs ht h1 hL hp
  ·rw [if_pos (.inl ht)] at h
   obtain ⟨rfl,rfl⟩:=Prod.mk.inj (Option.some.inj h)
   exact ztb a0 w hs ht
 ·rw [if_neg hs] at h;cases h
theorem zt6 {X:EV} {a0:ByteArray} {r:Int × Int} (h:znv a0=some r):Cv Tryz.prog (GX X) 128 [.c (.pv (.str a0))] [.c (.pv (.int .i64 r.1)),.c (.pv (.int .i64 r.2))]:=by
 refine ⟨Tryz.call128,?_⟩
 refine zi9 (v:=.tuple #[.int .i64 r.1,.int .i64 r.2]) rfl (fun η J w=>⟨_,rfl,L2.cons (Rd.int _ _) (L2.cons (Rd.int _ _) L2.nil)⟩) (fun η J w vs hok hl=>?_)
 obtain ⟨v,vs',rfl,hv,hn⟩:=hl.uncons
 obtain rfl:=hn.unnil
 obtain rfl:=zhf hv
 refine zrt a0 r.1 r.2 w h ⟨?_,?_⟩
 ·obtain ⟨_,us,T,fz,hu,hh⟩:=hok.glob 3 _ rfl
  obtain ⟨u,us',rfl,hu1,hr⟩:=hu.uncons
  obtain rfl:=hr.unnil
  obtain rfl:=z02r hu1
  exact ⟨X.t1,X.p1,by simp [World.cell?,hh]⟩
 ·obtain ⟨_,us,T,fz,hu,hh⟩:=hok.glob 4 _ rfl
  obtain ⟨u,us',rfl,hu1,hr⟩:=hu.uncons
  obtain rfl:=hr.unnil
  obtain rfl:=z02r hu1
  exact ⟨X.t2,X.p2,by simp [World.cell?,hh]⟩
end Go.Proofs.YtimbigpplbbjaaaGreatDoor.Abs
