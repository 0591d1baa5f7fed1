/- From a row's data to typed values: arrays, and parameters that are one cell. -/
import Derived.Test.YtaaihamelknhdaaGreatDoorAbsV
import Derived.OpenShut
import Derived.WideShapes
namespace Go.Proofs.YtaaihamelknhdaaGreatDoor.Abs
open Go Go.RowKit
set_option linter.unusedVariables false
set_option linter.unusedSimpArgs false
section
variable {P : Program} {H : Type} {enc : TypeId × Value → H} {w : World}
theorem int_one {t : TypeId} {k : IntKind} {W : World} {r : Reach} {base : Nat} {v : Value} (ht : P.underlying t = some (.int k)) (h : Value.okWide P W r base t v) : ∀ cs, v ≠ .agg cs := fun cs e => by
  subst e
  obtain ⟨n, hn⟩ := WideShapes.okWide_int ht h
  cases hn
theorem bool_one {t : TypeId} {W : World} {r : Reach} {base : Nat} {v : Value} (ht : P.underlying t = some .bool) (h : Value.okWide P W r base t v) : ∀ cs, v ≠ .agg cs := fun cs e => by
  subst e
  obtain ⟨n, hn⟩ := WideShapes.okWide_bool ht h
  cases hn
theorem str_one {t : TypeId} {W : World} {r : Reach} {base : Nat} {v : Value} (ht : P.underlying t = some .string) (h : Value.okWide P W r base t v) : ∀ cs, v ≠ .agg cs := fun cs e => by
  subst e
  obtain ⟨n, hn⟩ := WideShapes.okWide_string ht h
  cases hn
theorem slice_one {t E : TypeId} {W : World} {r : Reach} {base : Nat} {v : Value} (ht : P.underlying t = some (.slice E)) (h : Value.okWide P W r base t v) : ∀ cs, v ≠ .agg cs := fun cs e => by
  subst e
  obtain ⟨a, l, c, hn⟩ := WideShapes.okWide_slice ht h
  cases hn
theorem ar_l2 {τ : Type} {R : PV → Value → Prop} {e : τ → List PV} {sz : Nat} (x : Nat → τ) : ∀ (n : Nat) (cs : List Value), cs.length = n * sz → (∀ i, i < n → L2 R (e (x i)) ((cs.drop (i * sz)).take sz)) → L2 R (ar n fun i => e (x i)) cs
  | 0, cs, hl, _ => by
    have : cs = [] := List.length_eq_zero_iff.1 (by omega)
    subst this; exact L2.nil
  | n + 1, cs, hl, h => by
    rw [ar_succ, ← List.take_append_drop (n * sz) cs]
    have hm : (n + 1) * sz = n * sz + sz := Nat.succ_mul n sz
    refine L2.append (ar_l2 (sz := sz) x n _ (by rw [List.length_take]; omega) fun i hi => ?_) ?_
    · have := h i (by omega)
      rw [List.drop_take]
      have hle : i * sz + sz ≤ n * sz := by
        have := Nat.mul_le_mul_right sz (show i + 1 ≤ n by omega)
        rw [Nat.succ_mul] at this; exact this
      rwa [List.take_take, Nat.min_eq_left (by omega)]
    · have := h n (by omega)
      rwa [List.take_of_length_le (by rw [List.length_drop]; omega)] at this
theorem dec_arr {T E : TypeId} {n sz fuel : Nat} {τ : Type} {e : τ → List PV} {ok : τ → Prop} (z : τ) (hu : P.underlying T = some (.array n E)) (hsz : P.cellsOf E = sz) (hN : P.cellsOf T = n * sz) (hE : Dec P enc w fuel E e ok) {e' : (Nat → τ) → List PV} {ok' : (Nat → τ) → Prop} (he : ∀ x, e' x = ar n fun i => e (x i)) (hok : ∀ x, (∀ i, i < n → ok (x i)) → ok' x) :
    Dec P enc w (fuel + 1) T e' ok' := by
  intro cs d ps h
  obtain ⟨xs, m, hm, _, hl, hxl, hat⟩ := DataW.trod_array hu h
  obtain rfl : fuel = m := by omega
  rw [hN] at hl
  rw [hsz] at hat
  obtain ⟨l, hll, hl2⟩ := choose_list (n := n) (p := fun i (x : τ) => ok x ∧ L2 (Rd w (Old w)) (e x) ((cs.drop (i * sz)).take sz)) fun i hi => by
    have h1 := hat i hi
    rw [List.getElem?_eq_getElem (by omega)] at h1
    exact hE _ _ _ h1
  have hg : ∀ i, i < n → ok (l.getD i z) ∧ L2 (Rd w (Old w)) (e (l.getD i z)) ((cs.drop (i * sz)).take sz) := fun i hi => by
    refine hl2 i _ ?_
    rw [List.getD_eq_getElem?_getD, List.getElem?_eq_getElem (by omega)]; rfl
  exact ⟨fun i => l.getD i z, hok _ fun i hi => (hg i hi).1, by rw [he]; exact ar_l2 (fun i => l.getD i z) n cs hl fun i hi => (hg i hi).2⟩
end
end Go.Proofs.YtaaihamelknhdaaGreatDoor.Abs
