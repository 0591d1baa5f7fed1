/- What the listed variables give the walks of report: the table of powers and the kinds' words lie as the program's text lays them. -/
import Derived.Test.YtjcbedgpmjgcdaaDoorHb
import Derived.Test.YtjcbedgpmjgcdaaDoorAbsV
import Derived.Test.YtjcbedgpmjgcdaaDoorRows
import Derived.Lay
import Derived.LaidMore
import Derived.ProofKit
import Derived.OpenShut
import Derived.Stop.LaidErr
namespace Go.Proofs.YtjcbedgpmjgcdaaDoor.LaidR
open Go.ChangeShapes Go.WideShapes Go.RowKit Go.Proofs.YtjcbedgpmjgcdaaDoor.Abs
set_option linter.unusedVariables false
theorem own : ownKnob Tryd.prog.godebug = none := by kernel_rfl
def laidL : List (String × DataW Unit) := [("math/bits.deBruijn32tab", Rows.laid_math_bits_deBruijn32tab), ("math/bits.deBruijn64tab", Rows.laid_math_bits_deBruijn64tab), ("internal/strconv.uint64pow10", Rows.laid_internal_strconv_uint64pow10), ("jetsam/report.kinds", Rows.laid_jetsam_report_kinds)]
theorem cells_of_strs {H : Type} {enc : TypeId × Value → H} {P : Program} {w : World} {base : Nat} {sp : Nat → Bool} {held : Bool} {fuel : Nat} {t e : TypeId} {n : Nat} {cs : List Value} {p : List MemPlace} (zs : List (List UInt8))
    (ht : P.underlying t = some (.array n e)) (he : P.underlying e = some .string) (hce : P.cellsOf e = 1) (hct : P.cellsOf t = n)
    (h : DataW.trod enc P w base sp held fuel t cs = some (.agg (zs.map fun z => .lit (.string z)), p)) : cs = zs.map fun z => Value.string ⟨z.toArray⟩ := by
  obtain ⟨xs, m, _, hx, hl, hxl, hat⟩ := DataW.trod_array ht h
  have hm : zs.map (fun z => (DataW.lit (.string z) : DataW H)) = xs.map (·.1) := by
    have := congrArg Prod.fst hx
    simpa using this
  have hzl : zs.length = n := by
    have := congrArg List.length hm
    simp at this; omega
  rw [hct] at hl
  refine List.ext_getElem? fun i => ?_
  by_cases hi : i < n
  · have h1 := hat i hi
    rw [hce, List.getElem?_eq_getElem (by omega)] at h1
    obtain ⟨s, h2, h3, _⟩ := DataW.trod_string he h1
    have h4 : cs[i]? = some (.string s) := by
      have : ((cs.drop (i * 1)).take 1)[0]? = some (.string s) := by rw [h2]; rfl
      rw [List.getElem?_take_of_lt (by omega), List.getElem?_drop] at this
      simpa using this
    have h5 : (zs.map (fun z => (DataW.lit (.string z) : DataW H)))[i]? = some (.lit (.string s.data.toList)) := by
      rw [hm, List.getElem?_map, List.getElem?_eq_getElem (by omega), h3]; rfl
    rw [List.getElem?_map] at h5 ⊢
    cases hz : zs[i]? with
    | none => rw [hz] at h5; cases h5
    | some z =>
      rw [hz] at h5
      simp only [Option.map_some, Option.some.injEq, DataW.lit.injEq, Lit.string.injEq] at h5
      rw [h4, h5]; rfl
  · rw [List.getElem?_eq_none (by omega), List.getElem?_eq_none (by simp; omega)]
def kindZ : List (List UInt8) := [[101, 114, 114, 111, 114], [102, 97, 105, 108, 101, 100, 32, 97, 115, 115, 101, 114, 116, 105, 111, 110], [111, 118, 101, 114, 102, 108, 111, 119], [100, 105, 118, 105, 115, 105, 111, 110, 32, 98, 121, 32, 122, 101, 114, 111], [102, 117, 108, 108, 32, 99, 104, 97, 110, 110, 101, 108], [119, 114, 111, 110, 103, 32, 116, 97, 103], [98, 114, 111, 107, 101, 110, 32, 114, 117, 108, 101]]
theorem var_heap {P : Program} {W : World} {name : String} {g : Nat} {cs : Array Value} (hg : P.globalNamed name = some g) (h : W.var? P name = some cs) : g < W.heap.size ∧ ∃ T fz, W.heap[g]? = some (.cells cs T fz) := by
  unfold World.var? at h
  rw [hg] at h
  simp only [Option.bind_some] at h
  split at h
  · rename_i c T fz hb
    injection h with h; subst h
    exact ⟨(Array.getElem?_eq_some_iff.1 hb).1, T, fz, hb⟩
  · cases h
theorem l2_map {α : Type} {w : World} {J : Nat → Prop} (f : α → PV) (g : α → Value) (h : ∀ a, Rd w J (f a) (g a)) : ∀ l : List α, L2 (Rd w J) (l.map f) (l.map g)
  | [] => L2.nil
  | a :: l => L2.cons (h a) (l2_map f g h l)
theorem glob_of {W : World} (h : laidMetH Tryd.prog laidL W) : Glob GG (Old W) W := by
  rw [MakeChecks.laidMetH_plain _ _ _ (by kernel_rfl)] at h
  have hP := h.tail.tail
  have hK := h.tail.tail.tail
  have tP : Lib.TabIs Tryd.prog W "internal/strconv.uint64pow10" .u64 Lib.pow10Tab := Lib.tabIs_of_head (g := 1) (by kernel_rfl) (by kernel_rfl) Tryd.underlying132 Tryd.underlying58 (by kernel_rfl) (by kernel_rfl) hP
  intro g cs hg
  match g, hg with
  | 0, hg =>
    injection hg with hg
    subst hg
    obtain ⟨ps, ⟨g', t', us, fuel, p, q, hg', ht', hvar, hd, _, _⟩, _⟩ := hK
    have e1 : Tryd.prog.globalNamed "jetsam/report.kinds" = some 0 := by kernel_rfl
    have e2 : (Tryd.prog.globals[0]?).map (·.type) = some 82 := by kernel_rfl
    obtain rfl := Option.some.inj (e1.symm.trans hg')
    obtain rfl := Option.some.inj (e2.symm.trans ht')
    obtain ⟨hb, T, fz, hh⟩ := var_heap e1 hvar
    have hus := cells_of_strs kindZ Tryd.underlying82 Tryd.underlying9 (by kernel_rfl) (by kernel_rfl) hd
    refine ⟨hb, us.toList, T, fz, ?_, by simpa using hh⟩
    rw [hus]
    exact l2_map (fun z => PV.str ⟨z.toArray⟩) (fun z => Value.string ⟨z.toArray⟩) (fun z => Rd.str _) kindZ
  | 1, hg =>
    injection hg with hg
    subst hg
    obtain ⟨hb, T, fz, hh⟩ := var_heap (g := 1) (by kernel_rfl) tP
    exact ⟨hb, _, T, fz, l2_map (fun z => PV.int .u64 z) (fun z => Value.int .u64 z) (fun z => Rd.int _ _) Lib.pow10Tab, by simpa using hh⟩
  | _ + 2, hg => cases hg
theorem met (os : Os) (args : Array Value) : laidMetH Tryd.prog laidL ((World.laidAll Tryd.prog os laidL).forCall (fun _ _ => 0) ⟨#[], args, []⟩).memory := by
  rw [MakeChecks.laidMetH_plain _ _ _ (by kernel_rfl)]; exact laidMet_laidAll _ (by kernel_rfl) (by kernel_rfl)
end Go.Proofs.YtjcbedgpmjgcdaaDoor.LaidR
