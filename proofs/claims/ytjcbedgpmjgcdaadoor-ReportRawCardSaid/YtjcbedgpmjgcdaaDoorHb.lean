/- Contracts by hand for the printed walks: strconv.Itoa and strings.Join; the tables that the program lays. No conditions of its own. -/
import Derived.Test.YtjcbedgpmjgcdaaDoorAbsT
import Derived.Test.YtjcbedgpmjgcdaaDoorShelfR
import Derived.Lib.LaidTab
import Derived.Lib.ItoaNum
import Derived.Lib.SmallJoins
import Derived.Lib.AppendIntMem
namespace Go.Proofs.YtjcbedgpmjgcdaaDoor.Abs
open Go Go.RowKit
set_option linter.unusedVariables false
set_option linter.unusedSimpArgs false
def powPV : List PV := Lib.pow10Tab.map fun z => .int .u64 z
def kindPV : List PV := [.str (ByteArray.mk #[101, 114, 114, 111, 114]), .str (ByteArray.mk #[102, 97, 105, 108, 101, 100, 32, 97, 115, 115, 101, 114, 116, 105, 111, 110]), .str (ByteArray.mk #[111, 118, 101, 114, 102, 108, 111, 119]), .str (ByteArray.mk #[100, 105, 118, 105, 115, 105, 111, 110, 32, 98, 121, 32, 122, 101, 114, 111]), .str (ByteArray.mk #[102, 117, 108, 108, 32, 99, 104, 97, 110, 110, 101, 108]), .str (ByteArray.mk #[119, 114, 111, 110, 103, 32, 116, 97, 103]), .str (ByteArray.mk #[98, 114, 111, 107, 101, 110, 32, 114, 117, 108, 101])]
def GG : Nat → Option (List PV)
  | 0 => some kindPV
  | 1 => some powPV
  | _ => none
theorem L2.ints {w : World} {J : Nat → Prop} {k : IntKind} : ∀ {zs : List Int} {us : List Value}, L2 (Rd w J) (zs.map fun z => .int k z) us → us = zs.map fun z => .int k z
  | [], us, h => h.unnil
  | z :: zs, us, h => by
    obtain ⟨u, us', rfl, hu, hr⟩ := h.uncons
    rw [rd_int hu, L2.ints hr]; rfl
theorem meetsV_below {P : Program} {G : Nat → Option (List PV)} {f : FuncId} {args res : List XV} {v : Value} (hp : res.all XV.pure = true) (hR : ∀ η J w, Rs η J w res v)
    (h : ∀ η J w (vs : List Value), Ok G η J w [] → L2 (XVr η J w) args vs → Calls P f vs.toArray w fun e w' => e = .returned v ∧ Below w.heap.size w w') : MeetsV P G f args res := by
  intro η J w vs hok hl
  refine (h η J w vs hok hl).mono ?_
  rintro e w' ⟨rfl, hb⟩
  have hJ : ∀ b, J b → w'.heap[b]? = w.heap[b]? := fun b hb' => hb.block b (hok.jlt b hb')
  exact ⟨v, η, J, res, [], rfl, ⟨rfl, hp, rfl⟩, hR η J w', ⟨hok.len, fun b hb' => Nat.lt_of_lt_of_le (hok.jlt b hb') hb.size, fun b o ho => by simp at ho, fun b c o o' k ho => by simp at ho, fun b o k ho => by simp at ho, hok.glob.mono (fun _ h => h) hJ⟩,
    ⟨fun _ h => h, hb.os, hb.tape, hb.output, hb.size, fun k hk _ => hb.block k hk, fun k hk => .inl hk, Nat.le_refl _, fun b o k ho => by simp at ho, fun b o hlt ho => by simp at ho⟩⟩
def itoaB (n : Int) : ByteArray := ⟨(Lib.itoa n).toArray⟩
def itoa (n : Int) : Option ByteArray := if -9223372036854775808 ≤ n ∧ n ≤ 9223372036854775807 then some (itoaB n) else none
theorem itoa_meets {a0 : Int} {r : ByteArray} (h : itoa a0 = some r) : MeetsV Tryd.prog GG 29 [.c (.pv (.int .i64 a0))] [.c (.pv (.str r))] := by
  unfold itoa at h
  split at h
  · rename_i hr
    injection h with h
    subst h
    refine meetsV_below (v := .string (itoaB a0)) rfl (fun η J w => Rd.str _) (fun η J w vs hok hl => ?_)
    obtain ⟨v, vs', rfl, hv, hn⟩ := hl.uncons
    obtain rfl := hn.unnil
    obtain rfl := rd_int hv
    obtain ⟨_, us, T, fz, hu, hh⟩ := hok.glob 1 powPV rfl
    have hus := L2.ints hu
    have ht : Lib.TabIs Tryd.prog w "internal/strconv.uint64pow10" .u64 Lib.pow10Tab := by
      unfold Lib.TabIs World.var?
      rw [show Tryd.prog.globalNamed "internal/strconv.uint64pow10" = some 1 by kernel_rfl]
      simp only [Option.bind_some, hh, hus]
    refine (Tryd.strconv_Itoa a0 hr.1 hr.2 w ht).mono ?_
    rintro e w' ⟨rfl, k, os, rfl⟩
    exact ⟨rfl, Lib.below_grow _ w (Nat.le_refl _) k os⟩
  · cases h
def e_s (x : ByteArray) : List PV := [.str x]
def joinB (l : List ByteArray) (s : ByteArray) : List UInt8 := Lib.join (l.map (·.data.toList)) s.data.toList
def join (l : List ByteArray) (s : ByteArray) : Option ByteArray := if l ≠ [] ∧ l.length ≤ 140737488355328 ∧ (joinB l s).length ≤ 140737488355328 then some ⟨(joinB l s).toArray⟩ else none
theorem join_meets0 {a0 : List ByteArray} {a1 r : ByteArray} (h : join a0 a1 = some r) : MeetsV Tryd.prog GG 36 [.c (.pv (.sl (List.map e_s a0))), .c (.pv (.str a1))] [.c (.pv (.str r))] := by
  unfold join at h
  split at h
  · rename_i hr
    obtain ⟨h0, h1, h2⟩ := hr
    injection h with h
    subst h
    refine meetsV_below (v := .string ⟨(joinB a0 a1).toArray⟩) rfl (fun η J w => Rd.str _) (fun η J w vs hok hl => ?_)
    obtain ⟨v, vs', rfl, hv, hn⟩ := hl.uncons
    obtain ⟨v2, vs2, rfl, hv2, hn⟩ := hn.uncons
    obtain rfl := hn.unnil
    obtain rfl := rd_str hv2
    have hv : Rd w J (.sl (List.map e_s a0)) v := hv
    generalize hL : List.map e_s a0 = L at hv
    cases hv with
    | nil A cap => simp at hL; exact absurd hL h0
    | sl _ sz blk off cap us hne hJ hc g1 g2 g3 =>
      subst hL
      have hsz : sz = 1 := by
        cases a0 with
        | nil => simp at h0
        | cons x xs => exact (g1 0 (e_s x) rfl).symm
      subst hsz
      rw [show (List.map e_s a0).length = a0.length by simp] at *
      exact Tryd.strings_Join blk off cap a0 a1 w (fun j x hx => by
        have e1 : (List.map e_s a0)[j]? = some (e_s x) := by rw [List.getElem?_map, hx]; rfl
        have := g2 j (e_s x) 0 (.str x) e1 rfl
        rw [show off + (j * 1 + 0) = off + j by omega] at this
        rw [this, rd_str (g3 j (e_s x) 0 (.str x) e1 rfl)]) (hok.jlt _ hJ) h1 hc h2
  · cases h
end Go.Proofs.YtjcbedgpmjgcdaaDoor.Abs
