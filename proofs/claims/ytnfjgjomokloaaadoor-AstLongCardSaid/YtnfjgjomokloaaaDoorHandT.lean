/- A contract by hand: ast.Text, of what ast.Words gives. No conditions of its own. -/
import Derived.Test.YtnfjgjomokloaaaDoorHandA
import Derived.WalkKit
import Derived.BigCall
namespace Go.Proofs.YtnfjgjomokloaaaDoor.Abs
open Go Go.RowKit Go.Shelf
set_option linter.unusedVariables false
set_option linter.unusedSimpArgs false
/-- The words, a blank behind each. -/
def z6g (l : List ByteArray) : List UInt8 := l.flatMap fun x => x.data.toList ++ [32]
def zjz (l : List ByteArray) : ByteArray := ⟨(z6g l).toArray⟩
def SlIs (W : World) (l : List ByteArray) (sv : Value) : Prop :=
 ∃ A cap, sv = .slice A l.length cap ∧ l.length ≤ 9223372036854775807 ∧ ∀ i x, l[i]? = some x → ∃ k o, A = some ⟨k, o, none⟩ ∧ k < W.heap.size ∧ W.cell? ⟨k, o + i, none⟩ = some (.string x)
theorem zm9 {w : World} {J : Nat → Prop} (hj : ∀ b, J b → b < w.heap.size) {l : List ByteArray} {sv : Value} (h : Rd w J (.sl (l.map fun x => [.str x])) sv) (hl : l.length ≤ 9223372036854775807) : SlIs w l sv := by
 generalize hL : (l.map fun x => [PV.str x]) = L at h
 cases h with
 | nil A cap =>
  obtain rfl : l = [] := by simpa using hL
  exact ⟨A, cap, rfl, by simp, fun i x hx => by simp at hx⟩
 | sl _ sz blk off cap us hne hJ hc g1 g2 g3 =>
  subst hL
  have hsz : sz = 1 := by
   cases l with
   | nil => simp at hne
   | cons x xs => exact (g1 0 [.str x] rfl).symm
  subst hsz
  refine ⟨_, cap, by simp, hl, fun j x hx => ⟨blk, off, rfl, hj _ hJ, ?_⟩⟩
  have e1 : (l.map fun x => [PV.str x])[j]? = some [.str x] := by rw [List.getElem?_map, hx]; rfl
  have := g2 j [.str x] 0 (.str x) e1 rfl
  rw [show off + (j * 1 + 0) = off + j by omega] at this
  rw [this, z65 (g3 j [.str x] 0 (.str x) e1 rfl)]
theorem zax {B C : Nat} {w w1 : World} (h : Below C w w1) (hB : B ≤ C) : Below B w w1 := ⟨h.os, h.tape, h.output, h.size, fun i hi => h.block i (Nat.lt_of_lt_of_le hi hB)⟩
set_option maxHeartbeats 400000 in
set_option maxRecDepth 1000000 in
theorem zgm (l : List ByteArray) (z : Int) (A1 A2 A3 : Option Addr) (n1 n2 n3 c1 c2 c3 : Nat) (w : World) (hlen : (z6g l).length ≤ 140737488355328)
  (hcon : ∀ W, Below w.heap.size w W → Calls Tryd.prog 5 #[.agg #[.slice A1 n1 c1, .slice A2 n2 c2, .slice A3 n3 c3]] W fun e w' => ∃ sv, e = .returned (.tuple #[sv, .int .i64 z]) ∧ SlIs w' l sv ∧ Below W.heap.size W w') :
  Calls Tryd.prog 9 #[.agg #[.slice A1 n1 c1, .slice A2 n2 c2, .slice A3 n3 c3]] w fun e w' => e = .returned (.tuple #[.string (zjz l), .int .i64 z]) ∧ Below w.heap.size w w' := by
 have hcon := Lib.hid hcon
 go_enter Tryd.func9, Tryd.ntmps9
 go_wp2_with (go_at_call 5; refine (hcon.out _ ((Below.refl _ w).alloc (Nat.le_refl _) _)).mono ?_; rintro e w2 ⟨sv, rfl, ⟨A, cap, rfl, hll, hsl⟩, hb⟩)
 have hb1 : Below w.heap.size w w2 := ((Below.refl _ w).alloc (Nat.le_refl _) _).trans (zax hb (by simp))
 clear hb
 go_wp2
 go_loopw [16] (fun iv wr => ∃ i : Nat, iv = .int .i64 i ∧ i ≤ l.length ∧ Lib.IsBuilder 88 5 w2.heap.size w2.heap.size (Lib.byteCells (z6g (l.take i))) wr ∧ Below w2.heap.size w2 wr) (fun iv wr => match iv with | .int _ n => l.length - n.toNat | _ => 0)
 case atStart =>
  exact ⟨0, rfl, Nat.zero_le _, by simpa [z6g, Lib.byteCells] using Lib.fresh_isBuilder 88 5 w2, (Below.refl _ w2).alloc (Nat.le_refl _) _⟩
 case round =>
  obtain ⟨i, rfl, hi, hI, hbw⟩ := hrel
  have hsz : w2.heap.size ≤ wr.heap.size := hbw.size
  by_cases hp : i < l.length
  ·obtain ⟨k, o, rfl, hk, hc⟩ := hsl i l[i] (List.getElem?_eq_getElem hp)
   have hcell : wr.cell? ⟨k, o + i, none⟩ = some (.string l[i]) := (hbw.cell hk).trans hc
   have htk : z6g (l.take (i + 1)) = z6g (l.take i) ++ (l[i].data.toList ++ [32]) := by
    rw [List.take_succ_eq_append_getElem hp]; simp only [z6g, List.flatMap_append, List.flatMap_cons, List.flatMap_nil, List.append_nil]
   have hle : (z6g (l.take i)).length + (l[i].size + 1) ≤ 140737488355328 := by
    have h1 : (z6g l).length = (z6g (l.take (i + 1))).length + (z6g (l.drop (i + 1))).length := by
     rw [← List.length_append]; simp only [z6g]; rw [← List.flatMap_append, List.take_append_drop]
    rw [htk] at h1
    simp at h1
    omega
   have hin : (i : Int) < (l.length : Int) := by omega
   go_wp2_with (go_at_call 15; refine (Tryd.Builder_WriteString w2.heap.size w2.heap.size _ _ _ hI ?_ hsz).mono ?_)
   ·rw [ByteArray.size_append, Lib.byteCells_length]; exact hle
   rintro e W1 ⟨rfl, h1, b1⟩
   go_wp2
   go_roundw
   case rel =>
    refine ⟨i + 1, ?_, hp, Or.inr ?_, hbw.trans b1⟩
    ·push_cast; rfl
    ·rw [htk, Lib.byteCells_append]
     have : Lib.strCells (l[i] ++ { data := #[32] }) = Lib.byteCells (l[i].data.toList ++ [32]) := by simp [Lib.strCells, Lib.byteCells]
     rw [← this]; exact h1
   case measure =>
    show l.length - ((i : Int) + 1).toNat < l.length - (i : Int).toNat
    omega
  ·have hin : ¬ (i : Int) < (l.length : Int) := by omega
   have hil : i = l.length := by omega
   subst hil
   rw [List.take_length] at hI
   go_wp2_with (go_at_call 16; refine (Tryd.Builder_String_any w2.heap.size w2.heap.size (z6g l) _ hI hsz).mono ?_; rintro e W1 ⟨rfl, b1⟩)
   go_ret2
   exact ⟨rfl, hb1.trans (zax (hbw.trans b1) hb1.size)⟩
theorem zk1 (l : List ByteArray) : l.length ≤ (z6g l).length := by
 induction l with
 | nil => simp
 | cons x l ih => simp only [z6g, List.flatMap_cons, List.length_append, List.length_cons, List.length_nil] at *; omega
theorem zbk {w : World} {J : Nat → Prop} {xs : List (List PV)} {v : Value} (h : Rd w J (.sl xs) v) : ∃ A n c, v = .slice A n c := by
 cases h <;> exact ⟨_, _, _, rfl⟩
theorem zig {X : EV} {l : List ByteArray} {z : Int} {p1 p2 p3 : List (List PV)} (hlen : (z6g l).length ≤ 140737488355328)
  (hw : Cv Tryd.prog (GX X) 5 [.agg [.pv (.sl p1), .pv (.sl p2), .pv (.sl p3)]] [.c (.pv (.sl (l.map fun x => [.str x]))), .c (.pv (.int .i64 z))]) :
  Cv Tryd.prog (GX X) 9 [.agg [.pv (.sl p1), .pv (.sl p2), .pv (.sl p3)]] [.c (.pv (.str (zjz l))), .c (.pv (.int .i64 z))] := by
 refine ⟨Tryd.call9, ?_⟩
 refine z5c (v := .tuple #[.string (zjz l), .int .i64 z]) rfl (fun η J w => ⟨_, rfl, L2.cons (Rd.str _) (L2.cons (Rd.int _ _) L2.nil)⟩) (fun η J w vs hok hl => ?_)
 obtain ⟨v, vs', rfl, hv, hn⟩ := hl.uncons
 obtain rfl := hn.unnil
 obtain ⟨us, rfl, hus⟩ := hv
 obtain ⟨u1, us1, rfl, r1, hn⟩ := hus.uncons
 obtain ⟨u2, us2, rfl, r2, hn⟩ := hn.uncons
 obtain ⟨u3, us3, rfl, r3, hn⟩ := hn.uncons
 obtain rfl := hn.unnil
 obtain ⟨A1, n1, c1, rfl⟩ := zbk r1
 obtain ⟨A2, n2, c2, rfl⟩ := zbk r2
 obtain ⟨A3, n3, c3, rfl⟩ := zbk r3
 refine zgm l z A1 A2 A3 n1 n2 n3 c1 c2 c3 w hlen fun W hb => ?_
 have hJ : ∀ b, J b → W.heap[b]? = w.heap[b]? := fun b hb' => hb.block b (hok.jlt b hb')
 have hokW : Ok (GX X) η J W [] := ⟨hok.len, fun b hb' => Nat.lt_of_lt_of_le (hok.jlt b hb') hb.size, fun b o ho => by simp at ho, fun b c o o' k ho => by simp at ho, fun b o k ho => by simp at ho, hok.glob.mono (fun _ h => h) hJ⟩
 have hlW : L2 (XVr η J W) [.agg [.pv (.sl p1), .pv (.sl p2), .pv (.sl p3)]] [.agg #[.slice A1 n1 c1, .slice A2 n2 c2, .slice A3 n3 c3]] :=
  L2.cons ⟨[.slice A1 n1 c1, .slice A2 n2 c2, .slice A3 n3 c3], rfl, L2.cons (Rd.mono (fun _ h => h) hJ r1) (L2.cons (Rd.mono (fun _ h => h) hJ r2) (L2.cons (Rd.mono (fun _ h => h) hJ r3) L2.nil))⟩ L2.nil
 refine (hw.2 η J W _ hokW hlW).mono ?_
 rintro e w' ⟨v, η', J', r, st', rfl, ⟨rfl, hp, rfl⟩, hR, hok', hex⟩
 obtain ⟨vs, rfl, hvs⟩ := hR
 obtain ⟨v1, vs1, rfl, q1, hn⟩ := hvs.uncons
 obtain ⟨v2, vs2, rfl, q2, hn⟩ := hn.uncons
 obtain rfl := hn.unnil
 obtain rfl := z1l q2
 refine ⟨v1, rfl, zm9 hok'.jlt q1 (by have := zk1 l; omega), ⟨hex.os, hex.tape, hex.output, hex.size, fun k hk => hex.keep k hk ?_⟩⟩
 rintro ⟨b, o, ho, _⟩
 simp at ho
end Go.Proofs.YtnfjgjomokloaaaDoor.Abs
