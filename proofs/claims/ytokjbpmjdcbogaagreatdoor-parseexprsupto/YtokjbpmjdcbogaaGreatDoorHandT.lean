/- A contract by hand: ast.Text, of what ast.Words gives. No conditions of its own. -/
import Derived.Test.YtokjbpmjdcbogaaGreatDoorHandA
import Derived.WalkKit
import Derived.BigCall
namespace Go.Proofs.YtokjbpmjdcbogaaGreatDoor.Abs
open Go Go.RowKit Go.Shelf
set_option linter.unusedVariables false
set_option linter.unusedSimpArgs false
def zlf (l:List ByteArray):List UInt8:=l.flatMap fun x=>x.data.toList++[32]
def z0cz (l:List ByteArray):ByteArray:=⟨(zlf l).toArray⟩
def SlIs (W:World) (l:List ByteArray) (sv:Value):Prop :=
 ∃ A cap,sv=.slice A l.length cap∧l.length≤9223372036854775807∧∀ i x,l[i]?=some x→∃ k o,A=some ⟨k,o,none⟩∧k<W.heap.size∧W.cell? ⟨k,o+i,none⟩=some (.string x)
theorem zp8 {B C:Nat} {w w1:World} (h:Below C w w1) (hB:B≤C):Below B w w1:=⟨h.os,h.tape,h.output,h.size,fun i hi=>h.block i (Nat.lt_of_lt_of_le hi hB)⟩
set_option maxHeartbeats 400000 in
set_option maxRecDepth 1000000 in
theorem z09d (l:List ByteArray) (z:Int) (A1 A2 A3:Option Addr) (n1 n2 n3 c1 c2 c3:Nat) (w:World) (hlen:(zlf l).length≤140737488355328)
  (hcon:∀ W,Below w.heap.size w W→Calls Tryz.prog 17 #[.agg #[.slice A1 n1 c1,.slice A2 n2 c2,.slice A3 n3 c3]] W fun e w'=>∃ sv,e=.returned (.tuple #[sv,.int .i64 z])∧SlIs w' l sv∧Below W.heap.size W w') :
  Calls Tryz.prog 16 #[.agg #[.slice A1 n1 c1,.slice A2 n2 c2,.slice A3 n3 c3]] w fun e w'=>e=.returned (.tuple #[.string (z0cz l),.int .i64 z])∧Below w.heap.size w w':=by
 have hcon:=Lib.hid hcon
 go_enter Tryz.func16,Tryz.ntmps16
 go_wp2_with (go_at_call 17;refine (hcon.out _ ((Below.refl _ w).alloc (Nat.le_refl _) _)).mono ?_;rintro e w2 ⟨sv,rfl,⟨A,cap,rfl,hll,hsl⟩,hb⟩)
 have hb1:Below w.heap.size w w2:=((Below.refl _ w).alloc (Nat.le_refl _) _).trans (zp8 hb (by simp))
 clear hb
 go_wp2
 go_loopw [16] (fun iv wr=>∃ i:Nat,iv=.int .i64 i∧i≤l.length∧Lib.IsBuilder 128 5 w2.heap.size w2.heap.size (Lib.byteCells (zlf (l.take i))) wr∧Below w2.heap.size w2 wr) (fun iv wr=>match iv with|.int _ n=>l.length - n.toNat|_=>0)
 case atStart =>
  exact ⟨0,rfl,Nat.zero_le _,by simpa [zlf,Lib.byteCells] using Lib.fresh_isBuilder 128 5 w2,(Below.refl _ w2).alloc (Nat.le_refl _) _⟩
 case round =>
  obtain ⟨i,rfl,hi,hI,hbw⟩:=hrel
  have hsz:w2.heap.size≤wr.heap.size:=hbw.size
  by_cases hp:i<l.length
  ·obtain ⟨k,o,rfl,hk,hc⟩:=hsl i l[i] (List.getElem?_eq_getElem hp)
   have hcell:wr.cell? ⟨k,o+i,none⟩=some (.string l[i]):=(hbw.cell hk).trans hc
   have htk:zlf (l.take (i+1))=zlf (l.take i)++(l[i].data.toList++[32]):=by
    rw [List.take_succ_eq_append_getElem hp];simp only [zlf,List.flatMap_append,List.flatMap_cons,List.flatMap_nil,List.append_nil]
   have hle:(zlf (l.take i)).length+(l[i].size+1)≤140737488355328:=by
    have h1:(zlf l).length=(zlf (l.take (i+1))).length+(zlf (l.drop (i+1))).length:=by
     rw [← List.length_append];simp only [zlf];rw [← List.flatMap_append,List.take_append_drop]
    rw [htk] at h1
    simp at h1
    omega
   have hin:(i:Int)<(l.length:Int):=by omega
   go_wp2_with (go_at_call 50;refine (Tryz.Builder_WriteString w2.heap.size w2.heap.size _ _ _ hI ?_ hsz).mono ?_)
   ·rw [ByteArray.size_append,Lib.byteCells_length];exact hle
   rintro e W1 ⟨rfl,h1,b1⟩
   go_wp2
   go_roundw
   case rel =>
    refine ⟨i+1,?_,hp,Or.inr ?_,hbw.trans b1⟩
    ·push_cast;rfl
    ·rw [htk,Lib.byteCells_append]
     have:Lib.strCells (l[i]++{ data:=#[32] })=Lib.byteCells (l[i].data.toList++[32]):=by simp [Lib.strCells,Lib.byteCells]
     rw [← this];exact h1
   case measure =>
    show l.length - ((i:Int)+1).toNat<l.length - (i:Int).toNat
    omega
  ·have hin:¬ (i:Int)<(l.length:Int):=by omega
   have hil:i=l.length:=by omega
   subst hil
   rw [List.take_length] at hI
   go_wp2_with (go_at_call 51;refine (Tryz.Builder_String_any w2.heap.size w2.heap.size (zlf l) _ hI hsz).mono ?_;rintro e W1 ⟨rfl,b1⟩)
   go_ret2
   exact ⟨rfl,hb1.trans (zp8 (hbw.trans b1) hb1.size)⟩
end Go.Proofs.YtokjbpmjdcbogaaGreatDoor.Abs
