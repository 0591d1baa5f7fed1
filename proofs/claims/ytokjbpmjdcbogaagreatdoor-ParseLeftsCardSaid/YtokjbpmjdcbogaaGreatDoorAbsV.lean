/- From a row's data to typed values, and from a walk to a row. -/
import Derived.Test.YtokjbpmjdcbogaaGreatDoorAbsU
import Derived.RowKit3
import Derived.Carry
import Derived.Lib.LaidTab
import Derived.ChangeArms
namespace Go.Proofs.YtokjbpmjdcbogaaGreatDoor.Abs
open Go Go.RowKit
set_option linter.unusedVariables false
set_option linter.unusedSimpArgs false
section
variable {P : Program} {H : Type} {enc : TypeId × Value → H} {w : World}
def Old (w : World) : Nat → Prop := fun k => k < w.heap.size
/-- What reads as data of a type is a typed value's cells. -/
def Dec (P : Program) (enc : TypeId × Value → H) (w : World) (fuel : Nat) (T : TypeId) {τ : Type} (e : τ → List PV) (ok : τ → Prop) : Prop :=
 ∀ cs d ps, DataW.trod enc P w 0 (fun _ => true) true fuel T cs = some (d, ps) → ∃ x : τ, ok x ∧ L2 (Rd w (Old w)) (e x) cs
theorem dec0 {T : TypeId} {τ : Type} {e : τ → List PV} {ok : τ → Prop} : Dec P enc w 0 T e ok := fun cs d ps h => by cases h
structure InK (k : IntKind) (n : Int) : Prop where
 lo : k.min ≤ n
 hi : n ≤ k.max
theorem znf {T : TypeId} {k : IntKind} (hu : P.underlying T = some (.int k)) (fuel : Nat) : Dec P enc w fuel T (fun n : Int => [.int k n]) (InK k) := by
 intro cs d ps h
 obtain ⟨n, rfl, _, hw⟩ := DataW.trod_int hu h
 simp only [Lit.wf, Bool.and_eq_true, decide_eq_true_eq] at hw
 exact ⟨n, ⟨hw.1, hw.2⟩, L2.cons (.int _ _) L2.nil⟩
theorem zq5 {α β : Type} {f : α → Option β} {l : List α} {r : List β} (h : l.mapM f = some r) : r.length = l.length ∧ ∀ (i : Nat) (a : α), l[i]? = some a → ∃ b, r[i]? = some b ∧ f a = some b :=
 ⟨Lib.mapM_length h, fun i a ha => Lib.mapM_at h i a ha⟩
theorem zik {τ : Type} {n : Nat} {p : Nat → τ → Prop} (h : ∀ i, i < n → ∃ x, p i x) : ∃ xs : List τ, xs.length = n ∧ ∀ i x, xs[i]? = some x → p i x := by
 induction n with
 | zero => exact ⟨[], rfl, fun i x hx => by simp at hx⟩
 | succ n ih =>
  obtain ⟨xs, h1, h2⟩ := ih fun i hi => h i (by omega)
  obtain ⟨y, hy⟩ := h n (by omega)
  refine ⟨xs ++ [y], by simp [h1], fun i x hx => ?_⟩
  rw [List.getElem?_append] at hx
  split at hx
  ·exact h2 i x hx
  ·rename_i hlt
   cases hk : i - xs.length with
   | zero =>
    rw [hk] at hx
    simp at hx
    subst hx
    have : i = n := by omega
    subst this; exact hy
   | succ k => rw [hk] at hx; simp at hx
theorem zng {a : Addr} {n : Nat} {cs : List Value} (h : w.cells? 0 a n = some cs) : cs.length = n ∧ ∀ (i : Nat) (v : Value), cs[i]? = some v → w.cell? (a.add i) = some v := by
 unfold World.cells? at h
 rw [if_pos (Nat.zero_le _)] at h
 obtain ⟨h1, h2⟩ := zq5 h
 rw [List.length_range] at h1
 refine ⟨h1, fun i v hv => ?_⟩
 have hi : i < n := by rw [← h1]; exact (List.getElem?_eq_some_iff.1 hv).1
 obtain ⟨b, hb, hc⟩ := h2 i i (by rw [List.getElem?_range hi])
 rw [hv] at hb; injection hb with hb; subst hb; exact hc
theorem cell_spot {a : Addr} {v : Value} (h : w.cell? a = some v) : a.spot = none ∧ a.block < w.heap.size := by
 unfold World.cell? at h
 split at h
 ·rename_i c T fz hb
  split at h
  ·cases h
  ·rename_i hs
   exact ⟨by simpa using hs, (Array.getElem?_eq_some_iff.1 hb).1⟩
 ·cases h
theorem addr_add (bk of i j : Nat) : ((⟨bk, of, none⟩ : Addr).add i).add j = ⟨bk, of + (i + j), none⟩ := by
 by_cases h1 : i = 0 <;> by_cases h2 : j = 0 <;> simp [Addr.add, h1, h2, Nat.add_assoc]
theorem znh {T E : TypeId} {τ : Type} {e : τ → List PV} {ok : τ → Prop} {sz : Nat} (hu : P.underlying T = some (.slice E)) (hsz : P.cellsOf E = sz) (hpos : 0 < sz) (hlen : ∀ x, (e x).length = sz) {fuel : Nat} (hE : Dec P enc w fuel E e ok) :
  Dec P enc w (fuel + 1) T (fun l : List τ => [.sl (l.map e)]) (fun l => (∀ x ∈ l, ok x) ∧ l.length ≤ maxLen) := by
 intro cs d ps h
 rcases DataW.trod_slice hu h with ⟨rfl, _⟩ | ⟨a, len, cap, elems, rest, n, hn, rfl, _, _, hl1, hm1, hlen1, hel, _, _⟩
 ·exact ⟨[], ⟨fun x hx => by simp at hx, Nat.zero_le _⟩, L2.cons (.nil none 0) L2.nil⟩
 ·obtain rfl : fuel = n := by omega
  have each : ∀ i, i < len → ∃ x : τ, ok x ∧ ∃ ci, w.cells? 0 (a.add (i * sz)) sz = some ci ∧ L2 (Rd w (Old w)) (e x) ci := fun i hi => by
   have hb := hel i hi
   rw [hsz, List.getElem?_eq_getElem (by omega)] at hb
   cases hci : w.cells? 0 (a.add (i * sz)) sz with
   | none => rw [hci] at hb; cases hb
   | some ci =>
    rw [hci] at hb
    obtain ⟨x, h1, h2⟩ := hE ci _ _ hb
    exact ⟨x, h1, ci, rfl, h2⟩
  obtain ⟨xs, hxl, hxs⟩ := zik each
  have hc : True ∧ xs.length ≤ cap ∧ True := ⟨trivial, by omega, trivial⟩
  refine ⟨xs, ⟨fun x hx => ?_, by omega⟩, L2.cons ?_ L2.nil⟩
  ·obtain ⟨i, hi⟩ := List.mem_iff_getElem?.1 hx
   exact (hxs i x hi).1
  ·rw [← hxl]
   cases hx0 : xs with
   | nil => exact .nil (some a) cap
   | cons x0 r0 =>
    rw [← hx0]
    have cellOf : ∀ (i : Nat) (x : List PV) (j : Nat) (p : PV), (xs.map e)[i]? = some x → x[j]? = some p → ∃ v, w.cell? ((a.add (i * sz)).add j) = some v ∧ Rd w (Old w) p v := fun i x j p hx hp => by
     rw [List.getElem?_map] at hx
     cases hi : xs[i]? with
     | none => rw [hi] at hx; cases hx
     | some y =>
      rw [hi] at hx; injection hx with hx; subst hx
      obtain ⟨_, ci, h1, h2⟩ := hxs i y hi
      obtain ⟨v, hv, hr⟩ := h2.get hp
      exact ⟨v, (zng h1).2 j v hv, hr⟩
    have hp0 : ∃ p, (e x0)[0]? = some p := ⟨(e x0)[0]'(by rw [hlen]; exact hpos), List.getElem?_eq_getElem _⟩
    obtain ⟨p0, hp0⟩ := hp0
    obtain ⟨v0, hv0, _⟩ := cellOf 0 (e x0) 0 p0 (by rw [hx0]; rfl) hp0
    rw [show (a.add (0 * sz)).add 0 = a by simp [Addr.add]] at hv0
    obtain ⟨hs, hb⟩ := cell_spot hv0
    have ha : a = ⟨a.block, a.off, none⟩ := by cases a; simp at hs; subst hs; rfl
    have hadd : ∀ i j, (a.add i).add j = ⟨a.block, a.off + (i + j), none⟩ := fun i j => by
     have := addr_add a.block a.off i j
     rwa [← ha] at this
    have hres := Rd.sl (w := w) (J := Old w) (xs.map e) sz a.block a.off cap (fun i j => (w.cell? ⟨a.block, a.off + (i * sz + j), none⟩).getD undef) (by rw [hx0]; simp) hb (by simpa using hc.2.1)
     (fun i x hx => by
      rw [List.getElem?_map] at hx
      cases hi : xs[i]? with
      | none => rw [hi] at hx; cases hx
      | some y => rw [hi] at hx; injection hx with hx; subst hx; exact hlen y)
     (fun i x j p hx hp => by
      obtain ⟨v, hv, hr⟩ := cellOf i x j p hx hp
      rw [hadd] at hv
      rw [hv]; rfl)
     (fun i x j p hx hp => by
      obtain ⟨v, hv, hr⟩ := cellOf i x j p hx hp
      rw [hadd] at hv
      rw [hv]; exact hr)
    rw [List.length_map] at hres
    rw [ha]; exact hres
theorem zrs {p : PV} {v : Value} {J : Nat → Prop} {η : Hd} (h : L2 (Rd w J) [p] v.cells.toList) (hv : ∀ cs, v ≠ .agg cs) : XVr η J w (.c (.pv p)) v := by
 have hc : v.cells.toList = [v] := by
  cases v <;> first | rfl | exact absurd rfl (hv _)
 rw [hc] at h
 obtain ⟨y, ys, hy, hr, _⟩ := h.uncons
 injection hy with hy _
 subst hy; exact hr
/-- A walk, as a row wants it. -/
theorem zq6 {G : Nat → Option (List PV)} {f : FuncId} {args res : List XV} {vs : List Value} (h : zeh P G f args res) (hG : Glob G (Old w) w) (hl : L2 (XVr ⟨fun _ => undef, fun _ => False⟩ (Old w) w) args vs) :
  Calls P f vs.toArray w fun e w' => ∃ v, e = .returned v ∧ (∃ η J, Rs η J w' res v) ∧ Below w.heap.size w w' := by
 have hok : Ok G ⟨fun _ => undef, fun _ => False⟩ (Old w) w [] := ⟨fun b hb => hb.elim, fun b hb => hb, fun b o ho => by simp at ho, fun b c o o' k ho => by simp at ho, fun b o k ho => by simp at ho, hG⟩
 refine (h _ _ w vs hok hl).mono ?_
 rintro e w' ⟨v, η', J', r, st', rfl, ⟨rfl, hp, rfl⟩, hR, hok', hex⟩
 exact ⟨v, rfl, ⟨η', J', hR⟩, hex.os, hex.tape, hex.output, hex.size, fun k hk => hex.keep k hk zfj⟩
theorem zlu {G : Nat → Option (List PV)} {f : FuncId} {args : List XV} {vs : List Value} (h : zeh P G f args [.c (.pv (.bool true))]) (hG : Glob G (Old w) w) (hl : L2 (XVr ⟨fun _ => undef, fun _ => False⟩ (Old w) w) args vs) :
  Calls P f vs.toArray w fun e w' => e = .returned (.bool true) ∧ Below w.heap.size w w' :=
 (zq6 h hG hl).mono fun e w' ⟨v, he, ⟨η, J, hr⟩, hb⟩ => ⟨by rw [he, z9q hr], hb⟩
end
end Go.Proofs.YtokjbpmjdcbogaaGreatDoor.Abs
